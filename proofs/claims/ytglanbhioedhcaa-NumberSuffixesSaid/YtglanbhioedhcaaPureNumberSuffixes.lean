/- The pure statement of NumberSuffixes: the texts of numbers with a suffix are read as products, as far as they fit. -/
import Derived.Test.YtglanbhioedhcaaF3
import Derived.Test.YtglanbhioedhcaaQSuf
namespace Go.Proofs.Ytglanbhioedhcaa.Pure
open Go.RowKit Go.Proofs.Ytglanbhioedhcaa.P Go.Proofs.YtglanbhioedhcaaW.PrintWords Go.Proofs.YtglanbhioedhcaaW.PrintLast Go.Proofs.Ytglanbhioedhcaa.Q

def sufs : List ByteArray := [⟨#[]⟩, ⟨#[75]⟩, ⟨#[77]⟩, ⟨#[71]⟩, ⟨#[84]⟩]

/-- One round of the law's loop. -/
theorem suf_round {s : ByteArray} {v : Int} (h : Num s v) (k : Nat) (x : ByteArray) (i T : Int) (hi0 : 0 ≤ i) (hi5 : i < 5) (hx : rdOf ByteArray.empty sufs i = x) (hxs : x.size ≤ 1) (hT : 1 ≤ T) (hT2 : T ≤ 1099511627776)
    (p1 : number_Parse.f k (s ++ x) = some (if 1099511627776 / T < v then (0, 3) else (v * T, 0)))
    (p2 : number_Parse.f k ((⟨#[48, 48]⟩ ++ s) ++ x) = some (if 1099511627776 / T < v then (0, 3) else (v * T, 0))) :
    groupcontrollaw2_NumberSuffixes.l0 (k + 1) v s T sufs 5 i = groupcontrollaw2_NumberSuffixes.l0 k v s (wrap64 (T * 1024)) sufs 5 (i + 1) := by
  have hsz := h.size
  have hlo := h.lo
  have hhi := h.hi
  have htd : Int.tdiv 1099511627776 T = 1099511627776 / T := Int.tdiv_eq_ediv_of_nonneg (by omega)
  have hd0 : 0 ≤ 1099511627776 / T := Int.ediv_nonneg (by omega) (by omega)
  have hd1 : 1099511627776 / T ≤ 1099511627776 := Int.ediv_le_self _ (by omega)
  have hz2 : ((⟨#[48, 48]⟩ : ByteArray) ++ s).size = 2 + s.size := by rw [ByteArray.size_append]; rfl
  have hp : ¬ 1099511627776 / T < v → 0 ≤ v * T ∧ v * T ≤ 1099511627776 := fun hv => by
    have h1 : v * T ≤ 1099511627776 / T * T := Int.mul_le_mul_of_nonneg_right (by omega) (by omega)
    have h2 : 1099511627776 / T * T ≤ 1099511627776 := Int.ediv_mul_le _ (by omega)
    exact ⟨Int.mul_nonneg hlo (by omega), by omega⟩
  conv => lhs; simp only [groupcontrollaw2_NumberSuffixes.l0]
  rw [if_pos (by omega), if_pos hi0, if_pos (by show i < 5; omega), hx, if_pos (by omega), p1]
  simp only [Option.bind_some]
  rw [if_pos (by omega), if_pos (by rw [hz2]; omega), p2]
  simp only [Option.bind_some]
  rw [w64 (x := i + 1) (by omega) (by omega)]
  by_cases hv0 : v = 0
  · subst hv0
    simp only [show ¬ (1099511627776 / T < 0) from by omega, if_false, if_true, Int.zero_mul, w64 (x := 0) (by omega) (by omega)]
  · rw [if_neg hv0, if_neg (by omega), htd, w64 (x := 1099511627776 / T) (by omega) (by omega)]
    by_cases hv : 1099511627776 / T < v
    · simp only [hv, if_true]
      rw [if_neg (by omega), if_neg (by omega)]
    · simp only [hv, if_false, if_true]
      rw [if_pos (by omega), if_pos (by rw [w64 (by have := hp hv; omega) (by have := hp hv; omega)])]

theorem zeros_num {s : ByteArray} {v : Int} (h : Num s v) (hs : s.size ≤ 70) : Num (⟨#[48, 48]⟩ ++ s) v := by
  have e : (⟨#[48, 48]⟩ ++ s : ByteArray).data.toList = 48 :: 48 :: s.data.toList := by simp
  refine ⟨?_, ?_, ?_, ?_, h.lo, h.hi⟩
  · rw [e, List.all_cons, List.all_cons, h.dig]; decide
  · rw [e]; simp
  · rw [e]; simp only [val]; rw [← h.is]; rfl
  · rw [ByteArray.size_append]; show 2 + s.size ≤ 80; omega

theorem suf_all {s : ByteArray} {v : Int} (h : Num s v) (hs : s.size ≤ 70) (k : Nat) (hk : 3 ≤ k) : groupcontrollaw2_NumberSuffixes.l0 (k + 5) v s 1 sufs 5 0 = some true := by
  have hz := zeros_num h hs
  have hi := h.hi
  have e : ∀ (q i T Q : Int) (c : UInt8), 0 ≤ i → i ≤ 3 → Lib.indexByte [75, 77, 71, 84] c = i → shr .i64 1099511627776 (10 * (i + 1)) = Q → (∀ x, 0 ≤ x → x ≤ Q → shl .i64 x (10 * (i + 1)) = x * T) → Q = 1099511627776 / T →
      ∀ (s : ByteArray), Num s v → ∀ k, 1 ≤ k → number_Parse.f k (s ++ ⟨#[c]⟩) = some (if 1099511627776 / T < v then (0, 3) else (v * T, 0)) := by
    intro _ i T Q c h0 h3 hc hq hsh hQ s hn k hk
    rw [← hQ]
    exact parse_suffix hn ⟨#[c]⟩ c i T Q rfl hc h0 h3 hq hsh k hk
  have shl_ok : ∀ (n T Q : Int), 0 ≤ n → n.toNat ≤ 40 → (2 : Int) ^ n.toNat = T → Q * T ≤ 1099511627776 → 0 ≤ T → ∀ x, 0 ≤ x → x ≤ Q → shl .i64 x n = x * T := by
    intro n T Q _ hn hT hQ hT0 x hx0 hx1
    unfold shl
    rw [show min n.toNat IntKind.i64.bits = n.toNat from Nat.min_eq_left (by show n.toNat ≤ 64; omega), hT]
    have h1 : x * T ≤ Q * T := Int.mul_le_mul_of_nonneg_right hx1 hT0
    have h2 : 0 ≤ x * T := Int.mul_nonneg hx0 hT0
    rw [IntKind.wrap_i64]
    omega
  have pp : ∀ (s : ByteArray), Num s v → ∀ k, 1 ≤ k → number_Parse.f k (s ++ ⟨#[]⟩) = some (if 1099511627776 / 1 < v then (0, 3) else (v * 1, 0)) := by
    intro s hn k hk
    rw [show (⟨#[]⟩ : ByteArray) = ByteArray.empty from rfl, ByteArray.append_empty, parse_plain hn k hk, if_neg (by omega), Int.mul_one]
  have e1 := e 0 0 1024 1073741824 75 (by omega) (by omega) (by decide) (by decide) (shl_ok _ _ _ (by omega) (by decide) (by decide) (by decide) (by decide)) (by decide)
  have e2 := e 0 1 1048576 1048576 77 (by omega) (by omega) (by decide) (by decide) (shl_ok _ _ _ (by omega) (by decide) (by decide) (by decide) (by decide)) (by decide)
  have e3 := e 0 2 1073741824 1024 71 (by omega) (by omega) (by decide) (by decide) (shl_ok _ _ _ (by omega) (by decide) (by decide) (by decide) (by decide)) (by decide)
  have e4 := e 0 3 1099511627776 1 84 (by omega) (by omega) (by decide) (by decide) (shl_ok _ _ _ (by omega) (by decide) (by decide) (by decide) (by decide)) (by decide)
  rw [suf_round h (k + 4) ⟨#[]⟩ 0 1 (by omega) (by omega) rfl (by decide) (by omega) (by omega) (pp s h _ (by omega)) (pp _ hz _ (by omega)), w64 (x := 1 * 1024) (by omega) (by omega)]
  rw [show (1 : Int) * 1024 = 1024 from rfl, suf_round h (k + 3) ⟨#[75]⟩ (0 + 1) 1024 (by omega) (by omega) rfl (by decide) (by omega) (by omega) (e1 s h _ (by omega)) (e1 _ hz _ (by omega)), w64 (x := 1024 * 1024) (by omega) (by omega)]
  rw [show (1024 : Int) * 1024 = 1048576 from rfl, suf_round h (k + 2) ⟨#[77]⟩ (0 + 1 + 1) 1048576 (by omega) (by omega) rfl (by decide) (by omega) (by omega) (e2 s h _ (by omega)) (e2 _ hz _ (by omega)), w64 (x := 1048576 * 1024) (by omega) (by omega)]
  rw [show (1048576 : Int) * 1024 = 1073741824 from rfl, suf_round h (k + 1) ⟨#[71]⟩ (0 + 1 + 1 + 1) 1073741824 (by omega) (by omega) rfl (by decide) (by omega) (by omega) (e3 s h _ (by omega)) (e3 _ hz _ (by omega)), w64 (x := 1073741824 * 1024) (by omega) (by omega)]
  rw [show (1073741824 : Int) * 1024 = 1099511627776 from rfl, suf_round h k ⟨#[84]⟩ (0 + 1 + 1 + 1 + 1) 1099511627776 (by omega) (by omega) rfl (by decide) (by omega) (by omega) (e4 s h _ (by omega)) (e4 _ hz _ (by omega)), w64 (x := 1099511627776 * 1024) (by omega) (by omega)]
  obtain ⟨k, rfl⟩ : ∃ q, k = q + 1 := ⟨k - 1, by omega⟩
  simp only [groupcontrollaw2_NumberSuffixes.l0]
  rw [if_neg (by omega), sane2 k (by omega)]
  rfl

theorem NumberSuffixes : groupcontrollaw2_NumberSuffixes.Pure := by
  intro a0 a1 h0 h1
  suffices hs : ∀ K, 100 ≤ K → groupcontrollaw2_NumberSuffixes.f K a0 a1 = some true from ⟨100, hs 100 (Nat.le_refl _)⟩
  intro K hK
  have b0 : 0 ≤ a0 ∧ a0 ≤ 4294967295 := by simpa [Lit.wf, IntKind.min, IntKind.max, IntKind.signed, IntKind.bits] using h0
  have b1 : 0 ≤ a1 ∧ a1 ≤ 255 := by simpa [Lit.wf, IntKind.min, IntKind.max, IntKind.signed, IntKind.bits] using h1
  have hm : Int.tmod a1 32 = a1 % 32 := Int.tmod_eq_emod_of_nonneg b1.1
  unfold groupcontrollaw2_NumberSuffixes.f
  rw [hm, if_pos (by omega), w64 (x := a0) (by omega) (by omega)]
  have hv : 0 ≤ shr .i64 a0 (a1 % 32) ∧ shr .i64 a0 (a1 % 32) ≤ 4294967295 := by
    unfold shr
    have hp : (0 : Int) < 2 ^ min (a1 % 32).toNat IntKind.i64.bits := Int.pow_pos (by omega)
    have h1 := Int.ediv_nonneg b0.1 (Int.le_of_lt hp)
    have h2 := Int.ediv_le_self (2 ^ min (a1 % 32).toNat IntKind.i64.bits) b0.1
    omega
  obtain ⟨r, hr, hd, hn, hval, hsz⟩ := decimal_tells 12 K (shr .i64 a0 (a1 % 32)) ⟨#[]⟩ hv.1 (by omega) (by omega) (by omega) (by decide) (by decide) (by omega)
  unfold groupcontrolref2_Decimal.f
  rw [hr]
  simp only [Option.bind_some]
  obtain ⟨k, rfl⟩ : ∃ k, K = k + 5 := ⟨K - 5, by omega⟩
  have hsz' : r.size ≤ 13 := hsz
  exact suf_all ⟨hd, hn, hval, by omega, hv.1, Int.le_trans hv.2 (by decide)⟩ (by omega) k (by omega)

end Go.Proofs.Ytglanbhioedhcaa.Pure
