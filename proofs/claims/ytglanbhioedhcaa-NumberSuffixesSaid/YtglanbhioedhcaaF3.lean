/- The call of function 3 (groupcontrollaw2_NumberSuffixes) answers as the plain Lean function groupcontrollaw2_NumberSuffixes.f tells, for arguments that read as the premises of groupcontrollaw2_NumberSuffixes.calls say. Written by a program of this session's own (wip/printx.py). -/
import Derived.Test.YtglanbhioedhcaaK0
import Derived.Test.YtglanbhioedhcaaF10
import Derived.Test.YtglanbhioedhcaaF11
import Derived.Test.YtglanbhioedhcaaF9
namespace Go.Proofs.Ytglanbhioedhcaa.P
open Go.RowKit Go.Proofs.YtglanbhioedhcaaW.PrintWords Go.Proofs.YtglanbhioedhcaaW.PrintLast Go.Proofs.YtglanbhioedhcaaW.PrintMore
attribute [local go_sem] max2_int min2_int max_two min_two max_three min_three max_four min_four   -- for this text's walks alone
set_option linter.unusedVariables false
set_option linter.unusedSimpArgs false

/-! ### groupcontrollaw2_NumberSuffixes: function 3 -/
def groupcontrollaw2_NumberSuffixes.l0 : Nat → Int → ByteArray → Int → List ByteArray → Int → Int → Option (Bool)
  | 0, _, _, _, _, _, _ => none
  | k + 1, x5, x6, x7, x22, x23, x24 => if x24 < x23 then (if 0 ≤ x24 then (if x24 < (x22.length : Int) then (if x6.size + (rdOf ByteArray.empty x22 x24).size ≤ 9223372036854775807 then ((number_Parse.f k (x6 ++ (rdOf ByteArray.empty x22 x24))).bind fun bt107 => (if 2 + x6.size ≤ 9223372036854775807 then (if ((⟨#[48, 48]⟩ : ByteArray) ++ x6).size + (rdOf ByteArray.empty x22 x24).size ≤ 9223372036854775807 then ((number_Parse.f k (((⟨#[48, 48]⟩ : ByteArray) ++ x6) ++ (rdOf ByteArray.empty x22 x24))).bind fun bt109 => (if x5 = 0 then (if bt107.2 = bt109.2 then (if bt107.1 = bt109.1 then (if bt107.2 = 0 then (if bt107.1 = (wrap64 (x5 * x7)) then (groupcontrollaw2_NumberSuffixes.l0 k x5 x6 (wrap64 (x7 * 1024)) x22 x23 (wrap64 (x24 + 1))) else (some false)) else (some false)) else (some false)) else (some false)) else (if x7 = 0 then (none) else (if bt107.2 = bt109.2 then (if bt107.1 = bt109.1 then (if bt107.2 = 0 then (if x5 ≤ (wrap64 (Int.tdiv (1099511627776 : Int) x7)) then (if bt107.1 = (wrap64 (x5 * x7)) then (groupcontrollaw2_NumberSuffixes.l0 k x5 x6 (wrap64 (x7 * 1024)) x22 x23 (wrap64 (x24 + 1))) else (some false)) else (some false)) else (if x5 ≤ (wrap64 (Int.tdiv (1099511627776 : Int) x7)) then (some false) else (if bt107.2 = 3 then (groupcontrollaw2_NumberSuffixes.l0 k x5 x6 (wrap64 (x7 * 1024)) x22 x23 (wrap64 (x24 + 1))) else (some false)))) else (some false)) else (some false))))) else (none)) else (none))) else (none)) else (none)) else (none)) else ((groupcontrollaw2_sane.f k).bind fun t105 => (some t105))
def groupcontrollaw2_NumberSuffixes.f (k : Nat) (a0 : Int) (a1 : Int) : Option (Bool) := if 0 ≤ (Int.tmod a1 32) then ((groupcontrolref2_Decimal.f k (shr .i64 (wrap64 (a0)) (Int.tmod a1 32))).bind fun t101 => ((some (([(⟨#[]⟩ : ByteArray), (⟨#[75]⟩ : ByteArray), (⟨#[77]⟩ : ByteArray), (⟨#[71]⟩ : ByteArray), (⟨#[84]⟩ : ByteArray)] : List ByteArray) : List ByteArray)).bind fun y102 => (groupcontrollaw2_NumberSuffixes.l0 k (shr .i64 (wrap64 (a0)) (Int.tmod a1 32)) t101 1 y102 (y102.length : Int) 0))) else (none)
theorem groupcontrollaw2_NumberSuffixes.mono_l : ∀ k, (∀ y0 y1 y2 y3 y4 y5, LeO (groupcontrollaw2_NumberSuffixes.l0 k y0 y1 y2 y3 y4 y5) (groupcontrollaw2_NumberSuffixes.l0 (k + 1) y0 y1 y2 y3 y4 y5))
  | 0 => fun _ _ _ _ _ _ r h => by simp [groupcontrollaw2_NumberSuffixes.l0] at h
  | k + 1 => by
    have ih0 := groupcontrollaw2_NumberSuffixes.mono_l k
    · intro y0 y1 y2 y3 y4 y5
      unfold groupcontrollaw2_NumberSuffixes.l0
      repeat' first
      | (with_reducible exact ih0 _ _ _ _ _ _)
      | (with_reducible exact groupcontrollaw2_sane.mono _)
      | (with_reducible exact groupcontrolref2_Decimal.mono _ _)
      | (with_reducible exact number_Parse.mono _ _)
      | (with_reducible exact LeO.refl _)
      | (with_reducible exact LeO.none _)
      | (with_reducible refine LeO.ite ?_ ?_)
      | (with_reducible refine LeO.bind ?_ (fun _ => ?_))
      | exact ih0 _ _ _ _ _ _
      | exact groupcontrollaw2_sane.mono _
      | exact groupcontrolref2_Decimal.mono _ _
      | exact number_Parse.mono _ _
      | exact LeO.none _
      | refine LeO.ite ?_ ?_
      | refine LeO.bind ?_ (fun _ => ?_)
theorem groupcontrollaw2_NumberSuffixes.mono : ∀ a0 a1 k, LeO (groupcontrollaw2_NumberSuffixes.f k a0 a1) (groupcontrollaw2_NumberSuffixes.f (k + 1) a0 a1) := by
  intro a0 a1 k
  have ih0 := groupcontrollaw2_NumberSuffixes.mono_l k
  unfold groupcontrollaw2_NumberSuffixes.f
  repeat' first
      | (with_reducible exact ih0 _ _ _ _ _ _)
      | (with_reducible exact groupcontrollaw2_sane.mono _)
      | (with_reducible exact groupcontrolref2_Decimal.mono _ _)
      | (with_reducible exact number_Parse.mono _ _)
      | (with_reducible exact LeO.refl _)
      | (with_reducible exact LeO.none _)
      | (with_reducible refine LeO.ite ?_ ?_)
      | (with_reducible refine LeO.bind ?_ (fun _ => ?_))
      | exact ih0 _ _ _ _ _ _
      | exact groupcontrollaw2_sane.mono _
      | exact groupcontrolref2_Decimal.mono _ _
      | exact number_Parse.mono _ _
      | exact LeO.none _
      | refine LeO.ite ?_ ?_
      | refine LeO.bind ?_ (fun _ => ?_)
set_option maxHeartbeats 8000000 in
set_option maxRecDepth 100000 in
theorem groupcontrollaw2_NumberSuffixes.calls (k : Nat) (a0 : Int) (a1 : Int) (r : Bool) (w : World) (h : groupcontrollaw2_NumberSuffixes.f k a0 a1 = some r) :
    Calls Try.prog 3 #[.int .u32 a0, .int .u8 a1] w fun e w' => e = .returned (.bool r) ∧ Below w.heap.size w w' := by
  have HB := Aside0.mk (Below.refl w.heap.size w)
  have H : (if 0 ≤ (Int.tmod a1 32) then ((groupcontrolref2_Decimal.f k (shr .i64 (wrap64 (a0)) (Int.tmod a1 32))).bind fun t101 => ((some (([(⟨#[]⟩ : ByteArray), (⟨#[75]⟩ : ByteArray), (⟨#[77]⟩ : ByteArray), (⟨#[71]⟩ : ByteArray), (⟨#[84]⟩ : ByteArray)] : List ByteArray) : List ByteArray)).bind fun y102 => (groupcontrollaw2_NumberSuffixes.l0 k (shr .i64 (wrap64 (a0)) (Int.tmod a1 32)) t101 1 y102 (y102.length : Int) 0))) else (none)) = some r := h
  clear h
  obtain ⟨ji3, hji3⟩ : ∃ j_ : Int, (Int.tmod a1 32) = j_ := ⟨_, rfl⟩
  replace H : (if 0 ≤ (ji3) then ((groupcontrolref2_Decimal.f k (shr .i64 (wrap64 (a0)) (ji3))).bind fun t101 => ((some (([(⟨#[]⟩ : ByteArray), (⟨#[75]⟩ : ByteArray), (⟨#[77]⟩ : ByteArray), (⟨#[71]⟩ : ByteArray), (⟨#[84]⟩ : ByteArray)] : List ByteArray) : List ByteArray)).bind fun y102 => (groupcontrollaw2_NumberSuffixes.l0 k (shr .i64 (wrap64 (a0)) (ji3)) t101 1 y102 (y102.length : Int) 0))) else (none)) = some r := by first | (rw [hji3] at H; exact H) | (simp only [hji3] at H ⊢; exact H)
  by_cases c4 : 0 ≤ (ji3)
  · rw [if_pos c4] at H
    have c4b0 := eq_true c4
    have c4b1 : decide (0 ≤ (ji3)) = true := decide_eq_true c4
    clear c4
    obtain ⟨ji5, hji5⟩ : ∃ j_ : Int, (shr .i64 (wrap64 (a0)) (ji3)) = j_ := ⟨_, rfl⟩
    replace H : ((groupcontrolref2_Decimal.f k (ji5)).bind fun t101 => ((some (([(⟨#[]⟩ : ByteArray), (⟨#[75]⟩ : ByteArray), (⟨#[77]⟩ : ByteArray), (⟨#[71]⟩ : ByteArray), (⟨#[84]⟩ : ByteArray)] : List ByteArray) : List ByteArray)).bind fun y102 => (groupcontrollaw2_NumberSuffixes.l0 k ji5 t101 1 y102 (y102.length : Int) 0))) = some r := by first | (rw [hji5] at H; exact H) | (simp only [hji5] at H ⊢; exact H)
    have hji5_ : ((wrap64 (a0)) / 2 ^ min (ji3).toNat 64) = ji5 := hji5
    have hji5z : (ji3) ≤ 64 → ((wrap64 (a0)) / 2 ^ (ji3).toNat) = ji5 := shr_small hji5
    replace H := Option.bind_eq_some_iff.mp H
    obtain ⟨t101, A60, H⟩ := H
    replace H : ((some (([(⟨#[]⟩ : ByteArray), (⟨#[75]⟩ : ByteArray), (⟨#[77]⟩ : ByteArray), (⟨#[71]⟩ : ByteArray), (⟨#[84]⟩ : ByteArray)] : List ByteArray) : List ByteArray)).bind fun y102 => (groupcontrollaw2_NumberSuffixes.l0 k ji5 t101 1 y102 (y102.length : Int) 0)) = some r := H
    have A6 := Aside0.mk A60
    clear A60
    obtain ⟨y102, hy102⟩ : ∃ y_ : List ByteArray, y_ = (([(⟨#[]⟩ : ByteArray), (⟨#[75]⟩ : ByteArray), (⟨#[77]⟩ : ByteArray), (⟨#[71]⟩ : ByteArray), (⟨#[84]⟩ : ByteArray)] : List ByteArray)) := ⟨_, rfl⟩
    replace H : (groupcontrollaw2_NumberSuffixes.l0 k ji5 t101 1 y102 (y102.length : Int) 0) = some r := by first | (rw [hy102]; with_reducible exact H) | (have H2_ := (Option.bind_some _ _).symm.trans H; rw [hy102]; with_reducible exact H2_) | (have H2_ := (Option.bind_some _ _).symm.trans H; with_reducible exact H2_) | with_reducible exact H | (rw [hy102]; exact H) | exact H
    have Ny102 := Aside0.mk hy102
    clear hy102
    have H' := Aside0.mk H
    clear H
    go_enter Try.func3, Try.ntmps3
    go_wp2_with (first | ((with_reducible refine gate_callee (f := 9) rfl ?_); refine goesL_ (some 21) rfl rfl Try.func9 (by kernel_rfl) rfl #[.int .i64 ji5] rfl (by (try simp only [List.map_toArray, List.map_cons, List.map_nil]); first | done | (simp only [hji5]; rfl) | rfl | (simp only [List.length_drop, List.length_take]; rfl)) ?_; (with_reducible refine (groupcontrolref2_Decimal.calls k ji5 t101 _ A6.out).mono ?_); rintro e w7 ⟨rfl, hb⟩; refine ⟨_, rfl, ?_⟩; have n0_ := Aside0.mk (below_step (by repeat (first | (with_reducible first | exact HB.out | apply below_alloc | apply pw_below_drewN | apply below_drew1) | exact HB.out)) hb); clear HB; have HB := n0_; clear n0_; (try clear hb); (try clear hb2); (try clear hk); (try clear hi)) | ((with_reducible refine gate_dst (N := 22) rfl ?_); refine Kd.R_lit Kd.string _ 9 ?hg (N := 22) ?hd (xs := ([(⟨#[]⟩ : ByteArray), (⟨#[75]⟩ : ByteArray), (⟨#[77]⟩ : ByteArray), (⟨#[71]⟩ : ByteArray), (⟨#[84]⟩ : ByteArray)] : List ByteArray)) (inner := [.string (⟨#[]⟩ : ByteArray), .string (⟨#[75]⟩ : ByteArray), .string (⟨#[77]⟩ : ByteArray), .string (⟨#[71]⟩ : ByteArray), .string (⟨#[84]⟩ : ByteArray)]) (ok := fun _ => True) (okp := fun _ => True) ?hr ?hp (fun _ hk => hk) trivial (Below.refl _ _) (Nat.le_refl _) (by simp) ?_; (case hd => rfl); (case hg => rfl); (case hr => first | (go_simp; done) | (go_simp; rfl)); (case hp => exact (Reps.one (show Kd.M Kd.string _ _ _ (⟨#[]⟩ : ByteArray) [.string (⟨#[]⟩ : ByteArray)] from rfl) (Reps.one (show Kd.M Kd.string _ _ _ (⟨#[75]⟩ : ByteArray) [.string (⟨#[75]⟩ : ByteArray)] from rfl) (Reps.one (show Kd.M Kd.string _ _ _ (⟨#[77]⟩ : ByteArray) [.string (⟨#[77]⟩ : ByteArray)] from rfl) (Reps.one (show Kd.M Kd.string _ _ _ (⟨#[71]⟩ : ByteArray) [.string (⟨#[71]⟩ : ByteArray)] from rfl) (Reps.one (show Kd.M Kd.string _ _ _ (⟨#[84]⟩ : ByteArray) [.string (⟨#[84]⟩ : ByteArray)] from rfl) (Reps.none _ _))))))); intro v103 w8 ho9 hb hg_ hnew_; clear hg_ hnew_; (first | rw [← Ny102.out] at ho9 | (simp only [Int.reduceToNat] at ho9; rw [← Ny102.out] at ho9)); have n0_ := Aside0.mk (Kd.R_lower ho9 (below_size (by repeat (first | (with_reducible first | exact HB.out | apply below_alloc | apply pw_below_drewN | apply below_drew1) | exact HB.out)))); have n1_ := Aside0.mk (below_step (by repeat (first | (with_reducible first | exact HB.out | apply below_alloc | apply pw_below_drewN | apply below_drew1) | exact HB.out)) hb); clear HB; have HO104 := n0_; have HB := n1_; clear n0_ n1_; clear hb ho9; obtain ⟨Ao10, co10, eo10⟩ := Kd.R_slice HO104.out; subst eo10))
    go_loopg [7, 24] k (fun kq v7 v24 w' => ∃ (x7_1 : Int) (x24_1 : Int), v7 = .int .i64 x7_1 ∧ v24 = .int .i64 x24_1 ∧ Aside0 (groupcontrollaw2_NumberSuffixes.l0 kq ji5 t101 x7_1 y102 (y102.length : Int) x24_1 = some r) ∧ Aside0 (kq ≤ k) ∧ Aside0 (Kd.R Kd.string 9 w' w.heap.size (fun _ => True) (.slice Ao10 y102.length co10) y102) ∧ Aside0 (Below w.heap.size w w'))
    case atStart => exact ⟨(1), (0), (by first | rfl | (simp; done) | (simp [*]; done)), (by first | rfl | (simp; done) | (simp [*]; done)), H', ⟨Nat.le_refl _⟩, ⟨by (with_reducible repeat (first | apply Kd.R_alloc | apply Kd.R_drewN | apply Kd.R_drew)); exact HO104.out⟩, ⟨by repeat (first | (with_reducible first | exact HB.out | apply below_alloc | apply pw_below_drewN | apply below_drew1) | exact HB.out)⟩⟩
    case round =>
      clear H'
      try clear p2
      try clear c3
      try clear c4
      try clear c4b0
      try clear c4b1
      try clear p6
      try clear c9
      obtain ⟨x7_1, x24_1, rfl, rfl, HA, HK1, HO_22, HB⟩ := hrel
      cases gk with
      | zero => exact absurd HA.out (by simp [groupcontrollaw2_NumberSuffixes.l0])
      | succ k1 =>
        have H := HA.out
        clear HA
        simp only [groupcontrollaw2_NumberSuffixes.l0] at H
        by_cases c11 : x24_1 < (y102.length : Int)
        · rw [if_pos c11] at H
          have c11b0 : decide (x24_1 < (y102.length : Int)) = true := decide_eq_true c11
          clear c11
          by_cases c12 : 0 ≤ x24_1
          · rw [if_pos c12] at H
            have c12b0 : decide (0 ≤ x24_1) = true := decide_eq_true c12
            clear c12
            by_cases c13 : x24_1 < (y102.length : Int)
            · rw [if_pos c13] at H
              have c13b0 : decide (x24_1 < (y102.length : Int)) = true := decide_eq_true c13
              clear c13
              by_cases c14 : t101.size + (rdOf ByteArray.empty y102 x24_1).size ≤ 9223372036854775807
              · rw [if_pos c14] at H
                have c14b0 := eq_true c14
                have c14b1 : decide (t101.size + (rdOf ByteArray.empty y102 x24_1).size ≤ 9223372036854775807) = true := decide_eq_true c14
                try have c14b2 : (9223372036854775807 < t101.size + (rdOf ByteArray.empty y102 x24_1).size) = False := eq_false (Nat.not_lt.2 c14)
                replace H := Option.bind_eq_some_iff.mp H
                obtain ⟨⟨t107, t108⟩, A150, H⟩ := H
                replace H : (if 2 + t101.size ≤ 9223372036854775807 then (if ((⟨#[48, 48]⟩ : ByteArray) ++ t101).size + (rdOf ByteArray.empty y102 x24_1).size ≤ 9223372036854775807 then ((number_Parse.f k1 (((⟨#[48, 48]⟩ : ByteArray) ++ t101) ++ (rdOf ByteArray.empty y102 x24_1))).bind fun bt109 => (if ji5 = 0 then (if t108 = bt109.2 then (if t107 = bt109.1 then (if t108 = 0 then (if t107 = (wrap64 (ji5 * x7_1)) then (groupcontrollaw2_NumberSuffixes.l0 k1 ji5 t101 (wrap64 (x7_1 * 1024)) y102 (y102.length : Int) (wrap64 (x24_1 + 1))) else (some false)) else (some false)) else (some false)) else (some false)) else (if x7_1 = 0 then (none) else (if t108 = bt109.2 then (if t107 = bt109.1 then (if t108 = 0 then (if ji5 ≤ (wrap64 (Int.tdiv (1099511627776 : Int) x7_1)) then (if t107 = (wrap64 (ji5 * x7_1)) then (groupcontrollaw2_NumberSuffixes.l0 k1 ji5 t101 (wrap64 (x7_1 * 1024)) y102 (y102.length : Int) (wrap64 (x24_1 + 1))) else (some false)) else (some false)) else (if ji5 ≤ (wrap64 (Int.tdiv (1099511627776 : Int) x7_1)) then (some false) else (if t108 = 3 then (groupcontrollaw2_NumberSuffixes.l0 k1 ji5 t101 (wrap64 (x7_1 * 1024)) y102 (y102.length : Int) (wrap64 (x24_1 + 1))) else (some false)))) else (some false)) else (some false))))) else (none)) else (none)) = some r := H
                have A15 := Aside0.mk A150
                clear A150
                by_cases c16 : 2 + t101.size ≤ 9223372036854775807
                · rw [if_pos c16] at H
                  have c16b0 := eq_true c16
                  have c16b1 : decide (2 + t101.size ≤ 9223372036854775807) = true := decide_eq_true c16
                  try have c16b2 : (9223372036854775807 < 2 + t101.size) = False := eq_false (Nat.not_lt.2 c16)
                  by_cases c17 : ((⟨#[48, 48]⟩ : ByteArray) ++ t101).size + (rdOf ByteArray.empty y102 x24_1).size ≤ 9223372036854775807
                  · rw [if_pos c17] at H
                    have c17b0 := eq_true c17
                    have c17b1 : decide (((⟨#[48, 48]⟩ : ByteArray) ++ t101).size + (rdOf ByteArray.empty y102 x24_1).size ≤ 9223372036854775807) = true := decide_eq_true c17
                    try have c17b2 : (9223372036854775807 < ((⟨#[48, 48]⟩ : ByteArray) ++ t101).size + (rdOf ByteArray.empty y102 x24_1).size) = False := eq_false (Nat.not_lt.2 c17)
                    replace H := Option.bind_eq_some_iff.mp H
                    obtain ⟨⟨t109, t110⟩, A180, H⟩ := H
                    replace H : (if ji5 = 0 then (if t108 = t110 then (if t107 = t109 then (if t108 = 0 then (if t107 = (wrap64 (ji5 * x7_1)) then (groupcontrollaw2_NumberSuffixes.l0 k1 ji5 t101 (wrap64 (x7_1 * 1024)) y102 (y102.length : Int) (wrap64 (x24_1 + 1))) else (some false)) else (some false)) else (some false)) else (some false)) else (if x7_1 = 0 then (none) else (if t108 = t110 then (if t107 = t109 then (if t108 = 0 then (if ji5 ≤ (wrap64 (Int.tdiv (1099511627776 : Int) x7_1)) then (if t107 = (wrap64 (ji5 * x7_1)) then (groupcontrollaw2_NumberSuffixes.l0 k1 ji5 t101 (wrap64 (x7_1 * 1024)) y102 (y102.length : Int) (wrap64 (x24_1 + 1))) else (some false)) else (some false)) else (if ji5 ≤ (wrap64 (Int.tdiv (1099511627776 : Int) x7_1)) then (some false) else (if t108 = 3 then (groupcontrollaw2_NumberSuffixes.l0 k1 ji5 t101 (wrap64 (x7_1 * 1024)) y102 (y102.length : Int) (wrap64 (x24_1 + 1))) else (some false)))) else (some false)) else (some false)))) = some r := H
                    have A18 := Aside0.mk A180
                    clear A180
                    by_cases c19 : ji5 = 0
                    · rw [if_pos c19] at H
                      have c19b0 : (ji5 == 0) = true := beq_iff_eq.mpr c19
                      have c19b1 : (ji5 != 0) = false := bne_eq_false_iff_eq.mpr c19
                      clear c19
                      by_cases c20 : t108 = t110
                      · rw [if_pos c20] at H
                        have c20b0 : (t108 == t110) = true := beq_iff_eq.mpr c20
                        have c20b1 : (t108 != t110) = false := bne_eq_false_iff_eq.mpr c20
                        clear c20
                        by_cases c21 : t107 = t109
                        · rw [if_pos c21] at H
                          have c21b0 : (t107 == t109) = true := beq_iff_eq.mpr c21
                          have c21b1 : (t107 != t109) = false := bne_eq_false_iff_eq.mpr c21
                          clear c21
                          by_cases c22 : t108 = 0
                          · rw [if_pos c22] at H
                            have c22b0 : (t108 == 0) = true := beq_iff_eq.mpr c22
                            have c22b1 : (t108 != 0) = false := bne_eq_false_iff_eq.mpr c22
                            clear c22
                            by_cases c23 : t107 = (wrap64 (ji5 * x7_1))
                            · rw [if_pos c23] at H
                              have c23b0 : (t107 == (wrap64 (ji5 * x7_1))) = true := beq_iff_eq.mpr c23
                              have c23b1 : (t107 != (wrap64 (ji5 * x7_1))) = false := bne_eq_false_iff_eq.mpr c23
                              clear c23
                              have H' := Aside0.mk H
                              clear H
                              have p106 : 0 ≤ (x24_1 : Int) := of_decide_eq_true (by first | (with_reducible assumption) | assumption)
                              have q106 : x24_1 < (y102.length : Int) := of_decide_eq_true (by first | (with_reducible assumption) | assumption)
                              obtain ⟨ad106, e106, hx106_0⟩ := Kd.at_string (Kd.R_reads' HO_22.out).2.2 x24_1 p106 q106
                              cases e106
                              replace p106 := eq_true p106
                              replace q106 := eq_true q106
                              go_wp2_with (first | ((with_reducible refine gate_callee (f := 10) rfl ?_); refine goesL_ (some 32) rfl rfl Try.func10 (by kernel_rfl) rfl #[.string (t101 ++ (rdOf ByteArray.empty y102 x24_1))] rfl (by (try simp only [List.map_toArray, List.map_cons, List.map_nil]); first | done | rfl | (simp only [List.length_drop, List.length_take]; rfl)) ?_; (with_reducible refine (number_Parse.calls k1 (t101 ++ (rdOf ByteArray.empty y102 x24_1)) t107 t108 _ A15.out).mono ?_); rintro e w24 ⟨rfl, hb⟩; refine ⟨_, rfl, ?_⟩; have n0_ := Aside0.mk (Kd.R_below (by (with_reducible repeat (first | apply Kd.R_alloc | apply Kd.R_drewN | apply Kd.R_drew)); exact HO_22.out) hb); have n1_ := Aside0.mk (below_step (by repeat (first | (with_reducible first | exact HB.out | apply below_alloc | apply pw_below_drewN | apply below_drew1) | exact HB.out)) hb); clear HO_22; clear HB; have HO_22 := n0_; have HB := n1_; clear n0_ n1_; (try clear hb); (try clear hb2); (try clear hk); (try clear hi)) | ((with_reducible refine gate_callee (f := 10) rfl ?_); refine goesL_ (some 40) rfl rfl Try.func10 (by kernel_rfl) rfl #[.string (((⟨#[48, 48]⟩ : ByteArray) ++ t101) ++ (rdOf ByteArray.empty y102 x24_1))] rfl (by (try simp only [List.map_toArray, List.map_cons, List.map_nil]); first | done | rfl | (simp only [List.length_drop, List.length_take]; rfl)) ?_; (with_reducible refine (number_Parse.calls k1 (((⟨#[48, 48]⟩ : ByteArray) ++ t101) ++ (rdOf ByteArray.empty y102 x24_1)) t109 t110 _ A18.out).mono ?_); rintro e w25 ⟨rfl, hb⟩; refine ⟨_, rfl, ?_⟩; have n0_ := Aside0.mk (Kd.R_below (by (with_reducible repeat (first | apply Kd.R_alloc | apply Kd.R_drewN | apply Kd.R_drew)); exact HO_22.out) hb); have n1_ := Aside0.mk (below_step (by repeat (first | (with_reducible first | exact HB.out | apply below_alloc | apply pw_below_drewN | apply below_drew1) | exact HB.out)) hb); clear HO_22; clear HB; have HO_22 := n0_; have HB := n1_; clear n0_ n1_; (try clear hb); (try clear hb2); (try clear hk); (try clear hi)))
                              go_roundg k1
                              case measure => have := HK1.out; omega
                              case rel => exact ⟨(wrap64 (x7_1 * 1024)), (wrap64 (x24_1 + 1)), (by first | rfl | (simp; done) | (simp [*]; done)), (by first | rfl | (simp; done) | (simp [*]; done)), H', ⟨by have := HK1.out; omega⟩, ⟨by (with_reducible repeat (first | apply Kd.R_alloc | apply Kd.R_drewN | apply Kd.R_drew)); exact HO_22.out⟩, ⟨by repeat (first | (with_reducible first | exact HB.out | apply below_alloc | apply pw_below_drewN | apply below_drew1) | exact HB.out)⟩⟩
                            · rw [if_neg c23] at H
                              have c23b0 : (t107 == (wrap64 (ji5 * x7_1))) = false := beq_eq_false_iff_ne.mpr c23
                              have c23b1 : (t107 != (wrap64 (ji5 * x7_1))) = true := bne_iff_ne.mpr c23
                              obtain rfl := Option.some.inj H
                              have p106 : 0 ≤ (x24_1 : Int) := of_decide_eq_true (by first | (with_reducible assumption) | assumption)
                              have q106 : x24_1 < (y102.length : Int) := of_decide_eq_true (by first | (with_reducible assumption) | assumption)
                              obtain ⟨ad106, e106, hx106_0⟩ := Kd.at_string (Kd.R_reads' HO_22.out).2.2 x24_1 p106 q106
                              cases e106
                              replace p106 := eq_true p106
                              replace q106 := eq_true q106
                              go_wp2_with (first | ((with_reducible refine gate_callee (f := 10) rfl ?_); refine goesL_ (some 32) rfl rfl Try.func10 (by kernel_rfl) rfl #[.string (t101 ++ (rdOf ByteArray.empty y102 x24_1))] rfl (by (try simp only [List.map_toArray, List.map_cons, List.map_nil]); first | done | rfl | (simp only [List.length_drop, List.length_take]; rfl)) ?_; (with_reducible refine (number_Parse.calls k1 (t101 ++ (rdOf ByteArray.empty y102 x24_1)) t107 t108 _ A15.out).mono ?_); rintro e w26 ⟨rfl, hb⟩; refine ⟨_, rfl, ?_⟩; have n0_ := Aside0.mk (Kd.R_below (by (with_reducible repeat (first | apply Kd.R_alloc | apply Kd.R_drewN | apply Kd.R_drew)); exact HO_22.out) hb); have n1_ := Aside0.mk (below_step (by repeat (first | (with_reducible first | exact HB.out | apply below_alloc | apply pw_below_drewN | apply below_drew1) | exact HB.out)) hb); clear HO_22; clear HB; have HO_22 := n0_; have HB := n1_; clear n0_ n1_; (try clear hb); (try clear hb2); (try clear hk); (try clear hi)) | ((with_reducible refine gate_callee (f := 10) rfl ?_); refine goesL_ (some 40) rfl rfl Try.func10 (by kernel_rfl) rfl #[.string (((⟨#[48, 48]⟩ : ByteArray) ++ t101) ++ (rdOf ByteArray.empty y102 x24_1))] rfl (by (try simp only [List.map_toArray, List.map_cons, List.map_nil]); first | done | rfl | (simp only [List.length_drop, List.length_take]; rfl)) ?_; (with_reducible refine (number_Parse.calls k1 (((⟨#[48, 48]⟩ : ByteArray) ++ t101) ++ (rdOf ByteArray.empty y102 x24_1)) t109 t110 _ A18.out).mono ?_); rintro e w27 ⟨rfl, hb⟩; refine ⟨_, rfl, ?_⟩; have n0_ := Aside0.mk (Kd.R_below (by (with_reducible repeat (first | apply Kd.R_alloc | apply Kd.R_drewN | apply Kd.R_drew)); exact HO_22.out) hb); have n1_ := Aside0.mk (below_step (by repeat (first | (with_reducible first | exact HB.out | apply below_alloc | apply pw_below_drewN | apply below_drew1) | exact HB.out)) hb); clear HO_22; clear HB; have HO_22 := n0_; have HB := n1_; clear n0_ n1_; (try clear hb); (try clear hb2); (try clear hk); (try clear hi)))
                              go_ret
                              exact ⟨by first | rfl | (simp [errW_none, errW_some] <;> rfl) | (simp only [← hji3, ← hji5]; first | rfl | (simp [errW_none, errW_some] <;> rfl)) | (simp [*, errW_none, errW_some] <;> rfl), by repeat (first | (with_reducible first | exact HB.out | apply below_alloc | apply pw_below_drewN | apply below_drew1) | exact HB.out)⟩
                          · rw [if_neg c22] at H
                            have c22b0 : (t108 == 0) = false := beq_eq_false_iff_ne.mpr c22
                            have c22b1 : (t108 != 0) = true := bne_iff_ne.mpr c22
                            obtain rfl := Option.some.inj H
                            have p106 : 0 ≤ (x24_1 : Int) := of_decide_eq_true (by first | (with_reducible assumption) | assumption)
                            have q106 : x24_1 < (y102.length : Int) := of_decide_eq_true (by first | (with_reducible assumption) | assumption)
                            obtain ⟨ad106, e106, hx106_0⟩ := Kd.at_string (Kd.R_reads' HO_22.out).2.2 x24_1 p106 q106
                            cases e106
                            replace p106 := eq_true p106
                            replace q106 := eq_true q106
                            go_wp2_with (first | ((with_reducible refine gate_callee (f := 10) rfl ?_); refine goesL_ (some 32) rfl rfl Try.func10 (by kernel_rfl) rfl #[.string (t101 ++ (rdOf ByteArray.empty y102 x24_1))] rfl (by (try simp only [List.map_toArray, List.map_cons, List.map_nil]); first | done | rfl | (simp only [List.length_drop, List.length_take]; rfl)) ?_; (with_reducible refine (number_Parse.calls k1 (t101 ++ (rdOf ByteArray.empty y102 x24_1)) t107 t108 _ A15.out).mono ?_); rintro e w28 ⟨rfl, hb⟩; refine ⟨_, rfl, ?_⟩; have n0_ := Aside0.mk (Kd.R_below (by (with_reducible repeat (first | apply Kd.R_alloc | apply Kd.R_drewN | apply Kd.R_drew)); exact HO_22.out) hb); have n1_ := Aside0.mk (below_step (by repeat (first | (with_reducible first | exact HB.out | apply below_alloc | apply pw_below_drewN | apply below_drew1) | exact HB.out)) hb); clear HO_22; clear HB; have HO_22 := n0_; have HB := n1_; clear n0_ n1_; (try clear hb); (try clear hb2); (try clear hk); (try clear hi)) | ((with_reducible refine gate_callee (f := 10) rfl ?_); refine goesL_ (some 40) rfl rfl Try.func10 (by kernel_rfl) rfl #[.string (((⟨#[48, 48]⟩ : ByteArray) ++ t101) ++ (rdOf ByteArray.empty y102 x24_1))] rfl (by (try simp only [List.map_toArray, List.map_cons, List.map_nil]); first | done | rfl | (simp only [List.length_drop, List.length_take]; rfl)) ?_; (with_reducible refine (number_Parse.calls k1 (((⟨#[48, 48]⟩ : ByteArray) ++ t101) ++ (rdOf ByteArray.empty y102 x24_1)) t109 t110 _ A18.out).mono ?_); rintro e w29 ⟨rfl, hb⟩; refine ⟨_, rfl, ?_⟩; have n0_ := Aside0.mk (Kd.R_below (by (with_reducible repeat (first | apply Kd.R_alloc | apply Kd.R_drewN | apply Kd.R_drew)); exact HO_22.out) hb); have n1_ := Aside0.mk (below_step (by repeat (first | (with_reducible first | exact HB.out | apply below_alloc | apply pw_below_drewN | apply below_drew1) | exact HB.out)) hb); clear HO_22; clear HB; have HO_22 := n0_; have HB := n1_; clear n0_ n1_; (try clear hb); (try clear hb2); (try clear hk); (try clear hi)))
                            go_ret
                            exact ⟨by first | rfl | (simp [errW_none, errW_some] <;> rfl) | (simp only [← hji3, ← hji5]; first | rfl | (simp [errW_none, errW_some] <;> rfl)) | (simp [*, errW_none, errW_some] <;> rfl), by repeat (first | (with_reducible first | exact HB.out | apply below_alloc | apply pw_below_drewN | apply below_drew1) | exact HB.out)⟩
                        · rw [if_neg c21] at H
                          have c21b0 : (t107 == t109) = false := beq_eq_false_iff_ne.mpr c21
                          have c21b1 : (t107 != t109) = true := bne_iff_ne.mpr c21
                          obtain rfl := Option.some.inj H
                          have p106 : 0 ≤ (x24_1 : Int) := of_decide_eq_true (by first | (with_reducible assumption) | assumption)
                          have q106 : x24_1 < (y102.length : Int) := of_decide_eq_true (by first | (with_reducible assumption) | assumption)
                          obtain ⟨ad106, e106, hx106_0⟩ := Kd.at_string (Kd.R_reads' HO_22.out).2.2 x24_1 p106 q106
                          cases e106
                          replace p106 := eq_true p106
                          replace q106 := eq_true q106
                          go_wp2_with (first | ((with_reducible refine gate_callee (f := 10) rfl ?_); refine goesL_ (some 32) rfl rfl Try.func10 (by kernel_rfl) rfl #[.string (t101 ++ (rdOf ByteArray.empty y102 x24_1))] rfl (by (try simp only [List.map_toArray, List.map_cons, List.map_nil]); first | done | rfl | (simp only [List.length_drop, List.length_take]; rfl)) ?_; (with_reducible refine (number_Parse.calls k1 (t101 ++ (rdOf ByteArray.empty y102 x24_1)) t107 t108 _ A15.out).mono ?_); rintro e w30 ⟨rfl, hb⟩; refine ⟨_, rfl, ?_⟩; have n0_ := Aside0.mk (Kd.R_below (by (with_reducible repeat (first | apply Kd.R_alloc | apply Kd.R_drewN | apply Kd.R_drew)); exact HO_22.out) hb); have n1_ := Aside0.mk (below_step (by repeat (first | (with_reducible first | exact HB.out | apply below_alloc | apply pw_below_drewN | apply below_drew1) | exact HB.out)) hb); clear HO_22; clear HB; have HO_22 := n0_; have HB := n1_; clear n0_ n1_; (try clear hb); (try clear hb2); (try clear hk); (try clear hi)) | ((with_reducible refine gate_callee (f := 10) rfl ?_); refine goesL_ (some 40) rfl rfl Try.func10 (by kernel_rfl) rfl #[.string (((⟨#[48, 48]⟩ : ByteArray) ++ t101) ++ (rdOf ByteArray.empty y102 x24_1))] rfl (by (try simp only [List.map_toArray, List.map_cons, List.map_nil]); first | done | rfl | (simp only [List.length_drop, List.length_take]; rfl)) ?_; (with_reducible refine (number_Parse.calls k1 (((⟨#[48, 48]⟩ : ByteArray) ++ t101) ++ (rdOf ByteArray.empty y102 x24_1)) t109 t110 _ A18.out).mono ?_); rintro e w31 ⟨rfl, hb⟩; refine ⟨_, rfl, ?_⟩; have n0_ := Aside0.mk (Kd.R_below (by (with_reducible repeat (first | apply Kd.R_alloc | apply Kd.R_drewN | apply Kd.R_drew)); exact HO_22.out) hb); have n1_ := Aside0.mk (below_step (by repeat (first | (with_reducible first | exact HB.out | apply below_alloc | apply pw_below_drewN | apply below_drew1) | exact HB.out)) hb); clear HO_22; clear HB; have HO_22 := n0_; have HB := n1_; clear n0_ n1_; (try clear hb); (try clear hb2); (try clear hk); (try clear hi)))
                          go_ret
                          exact ⟨by first | rfl | (simp [errW_none, errW_some] <;> rfl) | (simp only [← hji3, ← hji5]; first | rfl | (simp [errW_none, errW_some] <;> rfl)) | (simp [*, errW_none, errW_some] <;> rfl), by repeat (first | (with_reducible first | exact HB.out | apply below_alloc | apply pw_below_drewN | apply below_drew1) | exact HB.out)⟩
                      · rw [if_neg c20] at H
                        have c20b0 : (t108 == t110) = false := beq_eq_false_iff_ne.mpr c20
                        have c20b1 : (t108 != t110) = true := bne_iff_ne.mpr c20
                        obtain rfl := Option.some.inj H
                        have p106 : 0 ≤ (x24_1 : Int) := of_decide_eq_true (by first | (with_reducible assumption) | assumption)
                        have q106 : x24_1 < (y102.length : Int) := of_decide_eq_true (by first | (with_reducible assumption) | assumption)
                        obtain ⟨ad106, e106, hx106_0⟩ := Kd.at_string (Kd.R_reads' HO_22.out).2.2 x24_1 p106 q106
                        cases e106
                        replace p106 := eq_true p106
                        replace q106 := eq_true q106
                        go_wp2_with (first | ((with_reducible refine gate_callee (f := 10) rfl ?_); refine goesL_ (some 32) rfl rfl Try.func10 (by kernel_rfl) rfl #[.string (t101 ++ (rdOf ByteArray.empty y102 x24_1))] rfl (by (try simp only [List.map_toArray, List.map_cons, List.map_nil]); first | done | rfl | (simp only [List.length_drop, List.length_take]; rfl)) ?_; (with_reducible refine (number_Parse.calls k1 (t101 ++ (rdOf ByteArray.empty y102 x24_1)) t107 t108 _ A15.out).mono ?_); rintro e w32 ⟨rfl, hb⟩; refine ⟨_, rfl, ?_⟩; have n0_ := Aside0.mk (Kd.R_below (by (with_reducible repeat (first | apply Kd.R_alloc | apply Kd.R_drewN | apply Kd.R_drew)); exact HO_22.out) hb); have n1_ := Aside0.mk (below_step (by repeat (first | (with_reducible first | exact HB.out | apply below_alloc | apply pw_below_drewN | apply below_drew1) | exact HB.out)) hb); clear HO_22; clear HB; have HO_22 := n0_; have HB := n1_; clear n0_ n1_; (try clear hb); (try clear hb2); (try clear hk); (try clear hi)) | ((with_reducible refine gate_callee (f := 10) rfl ?_); refine goesL_ (some 40) rfl rfl Try.func10 (by kernel_rfl) rfl #[.string (((⟨#[48, 48]⟩ : ByteArray) ++ t101) ++ (rdOf ByteArray.empty y102 x24_1))] rfl (by (try simp only [List.map_toArray, List.map_cons, List.map_nil]); first | done | rfl | (simp only [List.length_drop, List.length_take]; rfl)) ?_; (with_reducible refine (number_Parse.calls k1 (((⟨#[48, 48]⟩ : ByteArray) ++ t101) ++ (rdOf ByteArray.empty y102 x24_1)) t109 t110 _ A18.out).mono ?_); rintro e w33 ⟨rfl, hb⟩; refine ⟨_, rfl, ?_⟩; have n0_ := Aside0.mk (Kd.R_below (by (with_reducible repeat (first | apply Kd.R_alloc | apply Kd.R_drewN | apply Kd.R_drew)); exact HO_22.out) hb); have n1_ := Aside0.mk (below_step (by repeat (first | (with_reducible first | exact HB.out | apply below_alloc | apply pw_below_drewN | apply below_drew1) | exact HB.out)) hb); clear HO_22; clear HB; have HO_22 := n0_; have HB := n1_; clear n0_ n1_; (try clear hb); (try clear hb2); (try clear hk); (try clear hi)))
                        go_ret
                        exact ⟨by first | rfl | (simp [errW_none, errW_some] <;> rfl) | (simp only [← hji3, ← hji5]; first | rfl | (simp [errW_none, errW_some] <;> rfl)) | (simp [*, errW_none, errW_some] <;> rfl), by repeat (first | (with_reducible first | exact HB.out | apply below_alloc | apply pw_below_drewN | apply below_drew1) | exact HB.out)⟩
                    · rw [if_neg c19] at H
                      have c19b0 : (ji5 == 0) = false := beq_eq_false_iff_ne.mpr c19
                      have c19b1 : (ji5 != 0) = true := bne_iff_ne.mpr c19
                      by_cases c34 : x7_1 = 0
                      · rw [if_pos c34] at H
                        exact absurd H (by simp)
                      · rw [if_neg c34] at H
                        have c34b0 : (x7_1 == 0) = false := beq_eq_false_iff_ne.mpr c34
                        have c34b1 : (x7_1 != 0) = true := bne_iff_ne.mpr c34
                        by_cases c35 : t108 = t110
                        · rw [if_pos c35] at H
                          have c35b0 : (t108 == t110) = true := beq_iff_eq.mpr c35
                          have c35b1 : (t108 != t110) = false := bne_eq_false_iff_eq.mpr c35
                          clear c35
                          by_cases c36 : t107 = t109
                          · rw [if_pos c36] at H
                            have c36b0 : (t107 == t109) = true := beq_iff_eq.mpr c36
                            have c36b1 : (t107 != t109) = false := bne_eq_false_iff_eq.mpr c36
                            clear c36
                            by_cases c37 : t108 = 0
                            · rw [if_pos c37] at H
                              have c37b0 : (t108 == 0) = true := beq_iff_eq.mpr c37
                              have c37b1 : (t108 != 0) = false := bne_eq_false_iff_eq.mpr c37
                              clear c37
                              by_cases c38 : ji5 ≤ (wrap64 (Int.tdiv (1099511627776 : Int) x7_1))
                              · rw [if_pos c38] at H
                                have c38b0 : decide (ji5 ≤ (wrap64 (Int.tdiv (1099511627776 : Int) x7_1))) = true := decide_eq_true c38
                                clear c38
                                by_cases c39 : t107 = (wrap64 (ji5 * x7_1))
                                · rw [if_pos c39] at H
                                  have c39b0 : (t107 == (wrap64 (ji5 * x7_1))) = true := beq_iff_eq.mpr c39
                                  have c39b1 : (t107 != (wrap64 (ji5 * x7_1))) = false := bne_eq_false_iff_eq.mpr c39
                                  clear c39
                                  have H' := Aside0.mk H
                                  clear H
                                  have p106 : 0 ≤ (x24_1 : Int) := of_decide_eq_true (by first | (with_reducible assumption) | assumption)
                                  have q106 : x24_1 < (y102.length : Int) := of_decide_eq_true (by first | (with_reducible assumption) | assumption)
                                  obtain ⟨ad106, e106, hx106_0⟩ := Kd.at_string (Kd.R_reads' HO_22.out).2.2 x24_1 p106 q106
                                  cases e106
                                  replace p106 := eq_true p106
                                  replace q106 := eq_true q106
                                  go_wp2_with (first | ((with_reducible refine gate_callee (f := 10) rfl ?_); refine goesL_ (some 32) rfl rfl Try.func10 (by kernel_rfl) rfl #[.string (t101 ++ (rdOf ByteArray.empty y102 x24_1))] rfl (by (try simp only [List.map_toArray, List.map_cons, List.map_nil]); first | done | rfl | (simp only [List.length_drop, List.length_take]; rfl)) ?_; (with_reducible refine (number_Parse.calls k1 (t101 ++ (rdOf ByteArray.empty y102 x24_1)) t107 t108 _ A15.out).mono ?_); rintro e w40 ⟨rfl, hb⟩; refine ⟨_, rfl, ?_⟩; have n0_ := Aside0.mk (Kd.R_below (by (with_reducible repeat (first | apply Kd.R_alloc | apply Kd.R_drewN | apply Kd.R_drew)); exact HO_22.out) hb); have n1_ := Aside0.mk (below_step (by repeat (first | (with_reducible first | exact HB.out | apply below_alloc | apply pw_below_drewN | apply below_drew1) | exact HB.out)) hb); clear HO_22; clear HB; have HO_22 := n0_; have HB := n1_; clear n0_ n1_; (try clear hb); (try clear hb2); (try clear hk); (try clear hi)) | ((with_reducible refine gate_callee (f := 10) rfl ?_); refine goesL_ (some 40) rfl rfl Try.func10 (by kernel_rfl) rfl #[.string (((⟨#[48, 48]⟩ : ByteArray) ++ t101) ++ (rdOf ByteArray.empty y102 x24_1))] rfl (by (try simp only [List.map_toArray, List.map_cons, List.map_nil]); first | done | rfl | (simp only [List.length_drop, List.length_take]; rfl)) ?_; (with_reducible refine (number_Parse.calls k1 (((⟨#[48, 48]⟩ : ByteArray) ++ t101) ++ (rdOf ByteArray.empty y102 x24_1)) t109 t110 _ A18.out).mono ?_); rintro e w41 ⟨rfl, hb⟩; refine ⟨_, rfl, ?_⟩; have n0_ := Aside0.mk (Kd.R_below (by (with_reducible repeat (first | apply Kd.R_alloc | apply Kd.R_drewN | apply Kd.R_drew)); exact HO_22.out) hb); have n1_ := Aside0.mk (below_step (by repeat (first | (with_reducible first | exact HB.out | apply below_alloc | apply pw_below_drewN | apply below_drew1) | exact HB.out)) hb); clear HO_22; clear HB; have HO_22 := n0_; have HB := n1_; clear n0_ n1_; (try clear hb); (try clear hb2); (try clear hk); (try clear hi)))
                                  go_roundg k1
                                  case measure => have := HK1.out; omega
                                  case rel => exact ⟨(wrap64 (x7_1 * 1024)), (wrap64 (x24_1 + 1)), (by first | rfl | (simp; done) | (simp [*]; done)), (by first | rfl | (simp; done) | (simp [*]; done)), H', ⟨by have := HK1.out; omega⟩, ⟨by (with_reducible repeat (first | apply Kd.R_alloc | apply Kd.R_drewN | apply Kd.R_drew)); exact HO_22.out⟩, ⟨by repeat (first | (with_reducible first | exact HB.out | apply below_alloc | apply pw_below_drewN | apply below_drew1) | exact HB.out)⟩⟩
                                · rw [if_neg c39] at H
                                  have c39b0 : (t107 == (wrap64 (ji5 * x7_1))) = false := beq_eq_false_iff_ne.mpr c39
                                  have c39b1 : (t107 != (wrap64 (ji5 * x7_1))) = true := bne_iff_ne.mpr c39
                                  obtain rfl := Option.some.inj H
                                  have p106 : 0 ≤ (x24_1 : Int) := of_decide_eq_true (by first | (with_reducible assumption) | assumption)
                                  have q106 : x24_1 < (y102.length : Int) := of_decide_eq_true (by first | (with_reducible assumption) | assumption)
                                  obtain ⟨ad106, e106, hx106_0⟩ := Kd.at_string (Kd.R_reads' HO_22.out).2.2 x24_1 p106 q106
                                  cases e106
                                  replace p106 := eq_true p106
                                  replace q106 := eq_true q106
                                  go_wp2_with (first | ((with_reducible refine gate_callee (f := 10) rfl ?_); refine goesL_ (some 32) rfl rfl Try.func10 (by kernel_rfl) rfl #[.string (t101 ++ (rdOf ByteArray.empty y102 x24_1))] rfl (by (try simp only [List.map_toArray, List.map_cons, List.map_nil]); first | done | rfl | (simp only [List.length_drop, List.length_take]; rfl)) ?_; (with_reducible refine (number_Parse.calls k1 (t101 ++ (rdOf ByteArray.empty y102 x24_1)) t107 t108 _ A15.out).mono ?_); rintro e w42 ⟨rfl, hb⟩; refine ⟨_, rfl, ?_⟩; have n0_ := Aside0.mk (Kd.R_below (by (with_reducible repeat (first | apply Kd.R_alloc | apply Kd.R_drewN | apply Kd.R_drew)); exact HO_22.out) hb); have n1_ := Aside0.mk (below_step (by repeat (first | (with_reducible first | exact HB.out | apply below_alloc | apply pw_below_drewN | apply below_drew1) | exact HB.out)) hb); clear HO_22; clear HB; have HO_22 := n0_; have HB := n1_; clear n0_ n1_; (try clear hb); (try clear hb2); (try clear hk); (try clear hi)) | ((with_reducible refine gate_callee (f := 10) rfl ?_); refine goesL_ (some 40) rfl rfl Try.func10 (by kernel_rfl) rfl #[.string (((⟨#[48, 48]⟩ : ByteArray) ++ t101) ++ (rdOf ByteArray.empty y102 x24_1))] rfl (by (try simp only [List.map_toArray, List.map_cons, List.map_nil]); first | done | rfl | (simp only [List.length_drop, List.length_take]; rfl)) ?_; (with_reducible refine (number_Parse.calls k1 (((⟨#[48, 48]⟩ : ByteArray) ++ t101) ++ (rdOf ByteArray.empty y102 x24_1)) t109 t110 _ A18.out).mono ?_); rintro e w43 ⟨rfl, hb⟩; refine ⟨_, rfl, ?_⟩; have n0_ := Aside0.mk (Kd.R_below (by (with_reducible repeat (first | apply Kd.R_alloc | apply Kd.R_drewN | apply Kd.R_drew)); exact HO_22.out) hb); have n1_ := Aside0.mk (below_step (by repeat (first | (with_reducible first | exact HB.out | apply below_alloc | apply pw_below_drewN | apply below_drew1) | exact HB.out)) hb); clear HO_22; clear HB; have HO_22 := n0_; have HB := n1_; clear n0_ n1_; (try clear hb); (try clear hb2); (try clear hk); (try clear hi)))
                                  go_ret
                                  exact ⟨by first | rfl | (simp [errW_none, errW_some] <;> rfl) | (simp only [← hji3, ← hji5]; first | rfl | (simp [errW_none, errW_some] <;> rfl)) | (simp [*, errW_none, errW_some] <;> rfl), by repeat (first | (with_reducible first | exact HB.out | apply below_alloc | apply pw_below_drewN | apply below_drew1) | exact HB.out)⟩
                              · rw [if_neg c38] at H
                                have c38b0 : decide (ji5 ≤ (wrap64 (Int.tdiv (1099511627776 : Int) x7_1))) = false := decide_eq_false c38
                                clear c38
                                obtain rfl := Option.some.inj H
                                have p106 : 0 ≤ (x24_1 : Int) := of_decide_eq_true (by first | (with_reducible assumption) | assumption)
                                have q106 : x24_1 < (y102.length : Int) := of_decide_eq_true (by first | (with_reducible assumption) | assumption)
                                obtain ⟨ad106, e106, hx106_0⟩ := Kd.at_string (Kd.R_reads' HO_22.out).2.2 x24_1 p106 q106
                                cases e106
                                replace p106 := eq_true p106
                                replace q106 := eq_true q106
                                go_wp2_with (first | ((with_reducible refine gate_callee (f := 10) rfl ?_); refine goesL_ (some 32) rfl rfl Try.func10 (by kernel_rfl) rfl #[.string (t101 ++ (rdOf ByteArray.empty y102 x24_1))] rfl (by (try simp only [List.map_toArray, List.map_cons, List.map_nil]); first | done | rfl | (simp only [List.length_drop, List.length_take]; rfl)) ?_; (with_reducible refine (number_Parse.calls k1 (t101 ++ (rdOf ByteArray.empty y102 x24_1)) t107 t108 _ A15.out).mono ?_); rintro e w44 ⟨rfl, hb⟩; refine ⟨_, rfl, ?_⟩; have n0_ := Aside0.mk (Kd.R_below (by (with_reducible repeat (first | apply Kd.R_alloc | apply Kd.R_drewN | apply Kd.R_drew)); exact HO_22.out) hb); have n1_ := Aside0.mk (below_step (by repeat (first | (with_reducible first | exact HB.out | apply below_alloc | apply pw_below_drewN | apply below_drew1) | exact HB.out)) hb); clear HO_22; clear HB; have HO_22 := n0_; have HB := n1_; clear n0_ n1_; (try clear hb); (try clear hb2); (try clear hk); (try clear hi)) | ((with_reducible refine gate_callee (f := 10) rfl ?_); refine goesL_ (some 40) rfl rfl Try.func10 (by kernel_rfl) rfl #[.string (((⟨#[48, 48]⟩ : ByteArray) ++ t101) ++ (rdOf ByteArray.empty y102 x24_1))] rfl (by (try simp only [List.map_toArray, List.map_cons, List.map_nil]); first | done | rfl | (simp only [List.length_drop, List.length_take]; rfl)) ?_; (with_reducible refine (number_Parse.calls k1 (((⟨#[48, 48]⟩ : ByteArray) ++ t101) ++ (rdOf ByteArray.empty y102 x24_1)) t109 t110 _ A18.out).mono ?_); rintro e w45 ⟨rfl, hb⟩; refine ⟨_, rfl, ?_⟩; have n0_ := Aside0.mk (Kd.R_below (by (with_reducible repeat (first | apply Kd.R_alloc | apply Kd.R_drewN | apply Kd.R_drew)); exact HO_22.out) hb); have n1_ := Aside0.mk (below_step (by repeat (first | (with_reducible first | exact HB.out | apply below_alloc | apply pw_below_drewN | apply below_drew1) | exact HB.out)) hb); clear HO_22; clear HB; have HO_22 := n0_; have HB := n1_; clear n0_ n1_; (try clear hb); (try clear hb2); (try clear hk); (try clear hi)))
                                go_ret
                                exact ⟨by first | rfl | (simp [errW_none, errW_some] <;> rfl) | (simp only [← hji3, ← hji5]; first | rfl | (simp [errW_none, errW_some] <;> rfl)) | (simp [*, errW_none, errW_some] <;> rfl), by repeat (first | (with_reducible first | exact HB.out | apply below_alloc | apply pw_below_drewN | apply below_drew1) | exact HB.out)⟩
                            · rw [if_neg c37] at H
                              have c37b0 : (t108 == 0) = false := beq_eq_false_iff_ne.mpr c37
                              have c37b1 : (t108 != 0) = true := bne_iff_ne.mpr c37
                              by_cases c46 : ji5 ≤ (wrap64 (Int.tdiv (1099511627776 : Int) x7_1))
                              · rw [if_pos c46] at H
                                have c46b0 : decide (ji5 ≤ (wrap64 (Int.tdiv (1099511627776 : Int) x7_1))) = true := decide_eq_true c46
                                clear c46
                                obtain rfl := Option.some.inj H
                                have p106 : 0 ≤ (x24_1 : Int) := of_decide_eq_true (by first | (with_reducible assumption) | assumption)
                                have q106 : x24_1 < (y102.length : Int) := of_decide_eq_true (by first | (with_reducible assumption) | assumption)
                                obtain ⟨ad106, e106, hx106_0⟩ := Kd.at_string (Kd.R_reads' HO_22.out).2.2 x24_1 p106 q106
                                cases e106
                                replace p106 := eq_true p106
                                replace q106 := eq_true q106
                                go_wp2_with (first | ((with_reducible refine gate_callee (f := 10) rfl ?_); refine goesL_ (some 32) rfl rfl Try.func10 (by kernel_rfl) rfl #[.string (t101 ++ (rdOf ByteArray.empty y102 x24_1))] rfl (by (try simp only [List.map_toArray, List.map_cons, List.map_nil]); first | done | rfl | (simp only [List.length_drop, List.length_take]; rfl)) ?_; (with_reducible refine (number_Parse.calls k1 (t101 ++ (rdOf ByteArray.empty y102 x24_1)) t107 t108 _ A15.out).mono ?_); rintro e w47 ⟨rfl, hb⟩; refine ⟨_, rfl, ?_⟩; have n0_ := Aside0.mk (Kd.R_below (by (with_reducible repeat (first | apply Kd.R_alloc | apply Kd.R_drewN | apply Kd.R_drew)); exact HO_22.out) hb); have n1_ := Aside0.mk (below_step (by repeat (first | (with_reducible first | exact HB.out | apply below_alloc | apply pw_below_drewN | apply below_drew1) | exact HB.out)) hb); clear HO_22; clear HB; have HO_22 := n0_; have HB := n1_; clear n0_ n1_; (try clear hb); (try clear hb2); (try clear hk); (try clear hi)) | ((with_reducible refine gate_callee (f := 10) rfl ?_); refine goesL_ (some 40) rfl rfl Try.func10 (by kernel_rfl) rfl #[.string (((⟨#[48, 48]⟩ : ByteArray) ++ t101) ++ (rdOf ByteArray.empty y102 x24_1))] rfl (by (try simp only [List.map_toArray, List.map_cons, List.map_nil]); first | done | rfl | (simp only [List.length_drop, List.length_take]; rfl)) ?_; (with_reducible refine (number_Parse.calls k1 (((⟨#[48, 48]⟩ : ByteArray) ++ t101) ++ (rdOf ByteArray.empty y102 x24_1)) t109 t110 _ A18.out).mono ?_); rintro e w48 ⟨rfl, hb⟩; refine ⟨_, rfl, ?_⟩; have n0_ := Aside0.mk (Kd.R_below (by (with_reducible repeat (first | apply Kd.R_alloc | apply Kd.R_drewN | apply Kd.R_drew)); exact HO_22.out) hb); have n1_ := Aside0.mk (below_step (by repeat (first | (with_reducible first | exact HB.out | apply below_alloc | apply pw_below_drewN | apply below_drew1) | exact HB.out)) hb); clear HO_22; clear HB; have HO_22 := n0_; have HB := n1_; clear n0_ n1_; (try clear hb); (try clear hb2); (try clear hk); (try clear hi)))
                                go_ret
                                exact ⟨by first | rfl | (simp [errW_none, errW_some] <;> rfl) | (simp only [← hji3, ← hji5]; first | rfl | (simp [errW_none, errW_some] <;> rfl)) | (simp [*, errW_none, errW_some] <;> rfl), by repeat (first | (with_reducible first | exact HB.out | apply below_alloc | apply pw_below_drewN | apply below_drew1) | exact HB.out)⟩
                              · rw [if_neg c46] at H
                                have c46b0 : decide (ji5 ≤ (wrap64 (Int.tdiv (1099511627776 : Int) x7_1))) = false := decide_eq_false c46
                                clear c46
                                by_cases c49 : t108 = 3
                                · rw [if_pos c49] at H
                                  have c49b0 : (t108 == 3) = true := beq_iff_eq.mpr c49
                                  have c49b1 : (t108 != 3) = false := bne_eq_false_iff_eq.mpr c49
                                  clear c49
                                  have H' := Aside0.mk H
                                  clear H
                                  have p106 : 0 ≤ (x24_1 : Int) := of_decide_eq_true (by first | (with_reducible assumption) | assumption)
                                  have q106 : x24_1 < (y102.length : Int) := of_decide_eq_true (by first | (with_reducible assumption) | assumption)
                                  obtain ⟨ad106, e106, hx106_0⟩ := Kd.at_string (Kd.R_reads' HO_22.out).2.2 x24_1 p106 q106
                                  cases e106
                                  replace p106 := eq_true p106
                                  replace q106 := eq_true q106
                                  go_wp2_with (first | ((with_reducible refine gate_callee (f := 10) rfl ?_); refine goesL_ (some 32) rfl rfl Try.func10 (by kernel_rfl) rfl #[.string (t101 ++ (rdOf ByteArray.empty y102 x24_1))] rfl (by (try simp only [List.map_toArray, List.map_cons, List.map_nil]); first | done | rfl | (simp only [List.length_drop, List.length_take]; rfl)) ?_; (with_reducible refine (number_Parse.calls k1 (t101 ++ (rdOf ByteArray.empty y102 x24_1)) t107 t108 _ A15.out).mono ?_); rintro e w50 ⟨rfl, hb⟩; refine ⟨_, rfl, ?_⟩; have n0_ := Aside0.mk (Kd.R_below (by (with_reducible repeat (first | apply Kd.R_alloc | apply Kd.R_drewN | apply Kd.R_drew)); exact HO_22.out) hb); have n1_ := Aside0.mk (below_step (by repeat (first | (with_reducible first | exact HB.out | apply below_alloc | apply pw_below_drewN | apply below_drew1) | exact HB.out)) hb); clear HO_22; clear HB; have HO_22 := n0_; have HB := n1_; clear n0_ n1_; (try clear hb); (try clear hb2); (try clear hk); (try clear hi)) | ((with_reducible refine gate_callee (f := 10) rfl ?_); refine goesL_ (some 40) rfl rfl Try.func10 (by kernel_rfl) rfl #[.string (((⟨#[48, 48]⟩ : ByteArray) ++ t101) ++ (rdOf ByteArray.empty y102 x24_1))] rfl (by (try simp only [List.map_toArray, List.map_cons, List.map_nil]); first | done | rfl | (simp only [List.length_drop, List.length_take]; rfl)) ?_; (with_reducible refine (number_Parse.calls k1 (((⟨#[48, 48]⟩ : ByteArray) ++ t101) ++ (rdOf ByteArray.empty y102 x24_1)) t109 t110 _ A18.out).mono ?_); rintro e w51 ⟨rfl, hb⟩; refine ⟨_, rfl, ?_⟩; have n0_ := Aside0.mk (Kd.R_below (by (with_reducible repeat (first | apply Kd.R_alloc | apply Kd.R_drewN | apply Kd.R_drew)); exact HO_22.out) hb); have n1_ := Aside0.mk (below_step (by repeat (first | (with_reducible first | exact HB.out | apply below_alloc | apply pw_below_drewN | apply below_drew1) | exact HB.out)) hb); clear HO_22; clear HB; have HO_22 := n0_; have HB := n1_; clear n0_ n1_; (try clear hb); (try clear hb2); (try clear hk); (try clear hi)))
                                  go_roundg k1
                                  case measure => have := HK1.out; omega
                                  case rel => exact ⟨(wrap64 (x7_1 * 1024)), (wrap64 (x24_1 + 1)), (by first | rfl | (simp; done) | (simp [*]; done)), (by first | rfl | (simp; done) | (simp [*]; done)), H', ⟨by have := HK1.out; omega⟩, ⟨by (with_reducible repeat (first | apply Kd.R_alloc | apply Kd.R_drewN | apply Kd.R_drew)); exact HO_22.out⟩, ⟨by repeat (first | (with_reducible first | exact HB.out | apply below_alloc | apply pw_below_drewN | apply below_drew1) | exact HB.out)⟩⟩
                                · rw [if_neg c49] at H
                                  have c49b0 : (t108 == 3) = false := beq_eq_false_iff_ne.mpr c49
                                  have c49b1 : (t108 != 3) = true := bne_iff_ne.mpr c49
                                  obtain rfl := Option.some.inj H
                                  have p106 : 0 ≤ (x24_1 : Int) := of_decide_eq_true (by first | (with_reducible assumption) | assumption)
                                  have q106 : x24_1 < (y102.length : Int) := of_decide_eq_true (by first | (with_reducible assumption) | assumption)
                                  obtain ⟨ad106, e106, hx106_0⟩ := Kd.at_string (Kd.R_reads' HO_22.out).2.2 x24_1 p106 q106
                                  cases e106
                                  replace p106 := eq_true p106
                                  replace q106 := eq_true q106
                                  go_wp2_with (first | ((with_reducible refine gate_callee (f := 10) rfl ?_); refine goesL_ (some 32) rfl rfl Try.func10 (by kernel_rfl) rfl #[.string (t101 ++ (rdOf ByteArray.empty y102 x24_1))] rfl (by (try simp only [List.map_toArray, List.map_cons, List.map_nil]); first | done | rfl | (simp only [List.length_drop, List.length_take]; rfl)) ?_; (with_reducible refine (number_Parse.calls k1 (t101 ++ (rdOf ByteArray.empty y102 x24_1)) t107 t108 _ A15.out).mono ?_); rintro e w52 ⟨rfl, hb⟩; refine ⟨_, rfl, ?_⟩; have n0_ := Aside0.mk (Kd.R_below (by (with_reducible repeat (first | apply Kd.R_alloc | apply Kd.R_drewN | apply Kd.R_drew)); exact HO_22.out) hb); have n1_ := Aside0.mk (below_step (by repeat (first | (with_reducible first | exact HB.out | apply below_alloc | apply pw_below_drewN | apply below_drew1) | exact HB.out)) hb); clear HO_22; clear HB; have HO_22 := n0_; have HB := n1_; clear n0_ n1_; (try clear hb); (try clear hb2); (try clear hk); (try clear hi)) | ((with_reducible refine gate_callee (f := 10) rfl ?_); refine goesL_ (some 40) rfl rfl Try.func10 (by kernel_rfl) rfl #[.string (((⟨#[48, 48]⟩ : ByteArray) ++ t101) ++ (rdOf ByteArray.empty y102 x24_1))] rfl (by (try simp only [List.map_toArray, List.map_cons, List.map_nil]); first | done | rfl | (simp only [List.length_drop, List.length_take]; rfl)) ?_; (with_reducible refine (number_Parse.calls k1 (((⟨#[48, 48]⟩ : ByteArray) ++ t101) ++ (rdOf ByteArray.empty y102 x24_1)) t109 t110 _ A18.out).mono ?_); rintro e w53 ⟨rfl, hb⟩; refine ⟨_, rfl, ?_⟩; have n0_ := Aside0.mk (Kd.R_below (by (with_reducible repeat (first | apply Kd.R_alloc | apply Kd.R_drewN | apply Kd.R_drew)); exact HO_22.out) hb); have n1_ := Aside0.mk (below_step (by repeat (first | (with_reducible first | exact HB.out | apply below_alloc | apply pw_below_drewN | apply below_drew1) | exact HB.out)) hb); clear HO_22; clear HB; have HO_22 := n0_; have HB := n1_; clear n0_ n1_; (try clear hb); (try clear hb2); (try clear hk); (try clear hi)))
                                  go_ret
                                  exact ⟨by first | rfl | (simp [errW_none, errW_some] <;> rfl) | (simp only [← hji3, ← hji5]; first | rfl | (simp [errW_none, errW_some] <;> rfl)) | (simp [*, errW_none, errW_some] <;> rfl), by repeat (first | (with_reducible first | exact HB.out | apply below_alloc | apply pw_below_drewN | apply below_drew1) | exact HB.out)⟩
                          · rw [if_neg c36] at H
                            have c36b0 : (t107 == t109) = false := beq_eq_false_iff_ne.mpr c36
                            have c36b1 : (t107 != t109) = true := bne_iff_ne.mpr c36
                            obtain rfl := Option.some.inj H
                            have p106 : 0 ≤ (x24_1 : Int) := of_decide_eq_true (by first | (with_reducible assumption) | assumption)
                            have q106 : x24_1 < (y102.length : Int) := of_decide_eq_true (by first | (with_reducible assumption) | assumption)
                            obtain ⟨ad106, e106, hx106_0⟩ := Kd.at_string (Kd.R_reads' HO_22.out).2.2 x24_1 p106 q106
                            cases e106
                            replace p106 := eq_true p106
                            replace q106 := eq_true q106
                            go_wp2_with (first | ((with_reducible refine gate_callee (f := 10) rfl ?_); refine goesL_ (some 32) rfl rfl Try.func10 (by kernel_rfl) rfl #[.string (t101 ++ (rdOf ByteArray.empty y102 x24_1))] rfl (by (try simp only [List.map_toArray, List.map_cons, List.map_nil]); first | done | rfl | (simp only [List.length_drop, List.length_take]; rfl)) ?_; (with_reducible refine (number_Parse.calls k1 (t101 ++ (rdOf ByteArray.empty y102 x24_1)) t107 t108 _ A15.out).mono ?_); rintro e w54 ⟨rfl, hb⟩; refine ⟨_, rfl, ?_⟩; have n0_ := Aside0.mk (Kd.R_below (by (with_reducible repeat (first | apply Kd.R_alloc | apply Kd.R_drewN | apply Kd.R_drew)); exact HO_22.out) hb); have n1_ := Aside0.mk (below_step (by repeat (first | (with_reducible first | exact HB.out | apply below_alloc | apply pw_below_drewN | apply below_drew1) | exact HB.out)) hb); clear HO_22; clear HB; have HO_22 := n0_; have HB := n1_; clear n0_ n1_; (try clear hb); (try clear hb2); (try clear hk); (try clear hi)) | ((with_reducible refine gate_callee (f := 10) rfl ?_); refine goesL_ (some 40) rfl rfl Try.func10 (by kernel_rfl) rfl #[.string (((⟨#[48, 48]⟩ : ByteArray) ++ t101) ++ (rdOf ByteArray.empty y102 x24_1))] rfl (by (try simp only [List.map_toArray, List.map_cons, List.map_nil]); first | done | rfl | (simp only [List.length_drop, List.length_take]; rfl)) ?_; (with_reducible refine (number_Parse.calls k1 (((⟨#[48, 48]⟩ : ByteArray) ++ t101) ++ (rdOf ByteArray.empty y102 x24_1)) t109 t110 _ A18.out).mono ?_); rintro e w55 ⟨rfl, hb⟩; refine ⟨_, rfl, ?_⟩; have n0_ := Aside0.mk (Kd.R_below (by (with_reducible repeat (first | apply Kd.R_alloc | apply Kd.R_drewN | apply Kd.R_drew)); exact HO_22.out) hb); have n1_ := Aside0.mk (below_step (by repeat (first | (with_reducible first | exact HB.out | apply below_alloc | apply pw_below_drewN | apply below_drew1) | exact HB.out)) hb); clear HO_22; clear HB; have HO_22 := n0_; have HB := n1_; clear n0_ n1_; (try clear hb); (try clear hb2); (try clear hk); (try clear hi)))
                            go_ret
                            exact ⟨by first | rfl | (simp [errW_none, errW_some] <;> rfl) | (simp only [← hji3, ← hji5]; first | rfl | (simp [errW_none, errW_some] <;> rfl)) | (simp [*, errW_none, errW_some] <;> rfl), by repeat (first | (with_reducible first | exact HB.out | apply below_alloc | apply pw_below_drewN | apply below_drew1) | exact HB.out)⟩
                        · rw [if_neg c35] at H
                          have c35b0 : (t108 == t110) = false := beq_eq_false_iff_ne.mpr c35
                          have c35b1 : (t108 != t110) = true := bne_iff_ne.mpr c35
                          obtain rfl := Option.some.inj H
                          have p106 : 0 ≤ (x24_1 : Int) := of_decide_eq_true (by first | (with_reducible assumption) | assumption)
                          have q106 : x24_1 < (y102.length : Int) := of_decide_eq_true (by first | (with_reducible assumption) | assumption)
                          obtain ⟨ad106, e106, hx106_0⟩ := Kd.at_string (Kd.R_reads' HO_22.out).2.2 x24_1 p106 q106
                          cases e106
                          replace p106 := eq_true p106
                          replace q106 := eq_true q106
                          go_wp2_with (first | ((with_reducible refine gate_callee (f := 10) rfl ?_); refine goesL_ (some 32) rfl rfl Try.func10 (by kernel_rfl) rfl #[.string (t101 ++ (rdOf ByteArray.empty y102 x24_1))] rfl (by (try simp only [List.map_toArray, List.map_cons, List.map_nil]); first | done | rfl | (simp only [List.length_drop, List.length_take]; rfl)) ?_; (with_reducible refine (number_Parse.calls k1 (t101 ++ (rdOf ByteArray.empty y102 x24_1)) t107 t108 _ A15.out).mono ?_); rintro e w56 ⟨rfl, hb⟩; refine ⟨_, rfl, ?_⟩; have n0_ := Aside0.mk (Kd.R_below (by (with_reducible repeat (first | apply Kd.R_alloc | apply Kd.R_drewN | apply Kd.R_drew)); exact HO_22.out) hb); have n1_ := Aside0.mk (below_step (by repeat (first | (with_reducible first | exact HB.out | apply below_alloc | apply pw_below_drewN | apply below_drew1) | exact HB.out)) hb); clear HO_22; clear HB; have HO_22 := n0_; have HB := n1_; clear n0_ n1_; (try clear hb); (try clear hb2); (try clear hk); (try clear hi)) | ((with_reducible refine gate_callee (f := 10) rfl ?_); refine goesL_ (some 40) rfl rfl Try.func10 (by kernel_rfl) rfl #[.string (((⟨#[48, 48]⟩ : ByteArray) ++ t101) ++ (rdOf ByteArray.empty y102 x24_1))] rfl (by (try simp only [List.map_toArray, List.map_cons, List.map_nil]); first | done | rfl | (simp only [List.length_drop, List.length_take]; rfl)) ?_; (with_reducible refine (number_Parse.calls k1 (((⟨#[48, 48]⟩ : ByteArray) ++ t101) ++ (rdOf ByteArray.empty y102 x24_1)) t109 t110 _ A18.out).mono ?_); rintro e w57 ⟨rfl, hb⟩; refine ⟨_, rfl, ?_⟩; have n0_ := Aside0.mk (Kd.R_below (by (with_reducible repeat (first | apply Kd.R_alloc | apply Kd.R_drewN | apply Kd.R_drew)); exact HO_22.out) hb); have n1_ := Aside0.mk (below_step (by repeat (first | (with_reducible first | exact HB.out | apply below_alloc | apply pw_below_drewN | apply below_drew1) | exact HB.out)) hb); clear HO_22; clear HB; have HO_22 := n0_; have HB := n1_; clear n0_ n1_; (try clear hb); (try clear hb2); (try clear hk); (try clear hi)))
                          go_ret
                          exact ⟨by first | rfl | (simp [errW_none, errW_some] <;> rfl) | (simp only [← hji3, ← hji5]; first | rfl | (simp [errW_none, errW_some] <;> rfl)) | (simp [*, errW_none, errW_some] <;> rfl), by repeat (first | (with_reducible first | exact HB.out | apply below_alloc | apply pw_below_drewN | apply below_drew1) | exact HB.out)⟩
                  · rw [if_neg c17] at H
                    exact absurd H (by simp)
                · rw [if_neg c16] at H
                  exact absurd H (by simp)
              · rw [if_neg c14] at H
                exact absurd H (by simp)
            · rw [if_neg c13] at H
              exact absurd H (by simp)
          · rw [if_neg c12] at H
            exact absurd H (by simp)
        · rw [if_neg c11] at H
          have c11b0 : decide (x24_1 < (y102.length : Int)) = false := decide_eq_false c11
          clear c11
          replace H := Option.bind_eq_some_iff.mp H
          obtain ⟨t105, A580, H⟩ := H
          replace H : (some t105) = some r := H
          have A58 := Aside0.mk A580
          clear A580
          obtain rfl := Option.some.inj H
          go_wp2_with (first | ((with_reducible refine gate_callee (f := 11) rfl ?_); refine goesL_ (some 86) rfl rfl Try.func11 (by kernel_rfl) rfl #[] rfl (by (try simp only [List.map_toArray, List.map_cons, List.map_nil]); first | done | rfl | (simp only [List.length_drop, List.length_take]; rfl)) ?_; (with_reducible refine (groupcontrollaw2_sane.calls k1  t105 _ A58.out).mono ?_); rintro e w59 ⟨rfl, hb⟩; refine ⟨_, rfl, ?_⟩; have n0_ := Aside0.mk (Kd.R_below (by (with_reducible repeat (first | apply Kd.R_alloc | apply Kd.R_drewN | apply Kd.R_drew)); exact HO_22.out) hb); have n1_ := Aside0.mk (below_step (by repeat (first | (with_reducible first | exact HB.out | apply below_alloc | apply pw_below_drewN | apply below_drew1) | exact HB.out)) hb); clear HO_22; clear HB; have HO_22 := n0_; have HB := n1_; clear n0_ n1_; (try clear hb); (try clear hb2); (try clear hk); (try clear hi)))
          go_ret
          exact ⟨by first | rfl | (simp [errW_none, errW_some] <;> rfl) | (simp only [← hji3, ← hji5]; first | rfl | (simp [errW_none, errW_some] <;> rfl)) | (simp [*, errW_none, errW_some] <;> rfl), by repeat (first | (with_reducible first | exact HB.out | apply below_alloc | apply pw_below_drewN | apply below_drew1) | exact HB.out)⟩
  · rw [if_neg c4] at H
    exact absurd H (by simp)

/-- THE ONE PURE STATEMENT of groupcontrollaw2_NumberSuffixes: yours. -/
def groupcontrollaw2_NumberSuffixes.Pure : Prop := ∀ (a0 : Int) (a1 : Int), (Lit.int .u32 a0).wf = true → (Lit.int .u8 a1).wf = true → ∃ k, groupcontrollaw2_NumberSuffixes.f k a0 a1 = some true
theorem groupcontrollaw2_NumberSuffixes.walk (P : groupcontrollaw2_NumberSuffixes.Pure) (a0 : Int) (a1 : Int) (w : World) (w0 : (Lit.int .u32 a0).wf = true) (w1 : (Lit.int .u8 a1).wf = true) :
    Calls Try.prog 3 #[.int .u32 a0, .int .u8 a1] w fun e w' => e = .returned (.bool true) ∧ Below w.heap.size w w' := by
  obtain ⟨k, h⟩ := P a0 a1 w0 w1
  refine (groupcontrollaw2_NumberSuffixes.calls k a0 a1 true w h).mono ?_
  rintro e w' ⟨rfl, hd⟩
  exact ⟨rfl, hd⟩

end Go.Proofs.Ytglanbhioedhcaa.P
