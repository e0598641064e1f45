/- Plain laws of decimal texts and of suffixes: what Decimal and Parse answer together. No program in sight. -/
import Derived.Test.YtglanbhioedhcaaF9
import Derived.Test.YtglanbhioedhcaaQNum
namespace Go.Proofs.Ytglanbhioedhcaa.Q
open Go.RowKit Go.Proofs.Ytglanbhioedhcaa.P Go.Proofs.YtglanbhioedhcaaW.PrintWords Go.Proofs.YtglanbhioedhcaaW.PrintLast

/-- The number that digits stand for, begun at n. -/
def val : List UInt8 → Int → Int
  | [], n => n
  | c :: l, n => val l (10 * n + ((c.toNat : Int) - 48))
theorem val_ge (l : List UInt8) (hl : l.all isDig = true) : ∀ n, 0 ≤ n → n ≤ val l n := by
  induction l with
  | nil => intro n _; exact Int.le_refl _
  | cons c l ih =>
    intro n hn
    simp only [List.all_cons, Bool.and_eq_true] at hl
    have hc : 48 ≤ c.toNat := by have := hl.1; simp [isDig] at this; omega
    have := ih hl.2 (10 * n + ((c.toNat : Int) - 48)) (by omega)
    simp only [val]
    omega
theorem foldDig_val (m : Int) (hm : 0 ≤ m) (l : List UInt8) (hl : l.all isDig = true) : ∀ n, 0 ≤ n → n ≤ m → foldDig m l n = mn (val l n) m := by
  induction l with
  | nil =>
    intro n _ h
    show n = mn n m
    unfold mn
    split <;> omega
  | cons c l ih =>
    intro n hn hnm
    have hl' := hl
    simp only [List.all_cons, Bool.and_eq_true] at hl
    have hc : 48 ≤ c.toNat := by have := hl.1; simp [isDig] at this; omega
    show foldDig m l (mn (10 * n + ((c.toNat : Int) - 48)) m) = _
    simp only [val]
    have h1 := val_ge l hl.2 (10 * n + ((c.toNat : Int) - 48)) (by omega)
    by_cases h : m < 10 * n + ((c.toNat : Int) - 48)
    · have e : mn (10 * n + ((c.toNat : Int) - 48)) m = m := by unfold mn; rw [if_pos h]
      rw [e, ih hl.2 m hm (Int.le_refl _)]
      have h2 := val_ge l hl.2 m hm
      unfold mn
      repeat' split
      all_goals omega
    · have e : mn (10 * n + ((c.toNat : Int) - 48)) m = 10 * n + ((c.toNat : Int) - 48) := by unfold mn; rw [if_neg h]
      rw [e, ih hl.2 _ (by omega) (by omega)]

theorem digit_byte (v : Int) (h : 0 ≤ v) (h2 : v < 10) : strOfNums [(wrap64 (48 + v)) % 256] = ⟨#[(48 + v).toNat.toUInt8]⟩ ∧ ((48 + v).toNat.toUInt8).toNat = (48 + v).toNat := by
  rw [w64 (by omega) (by omega), show (48 + v) % 256 = 48 + v from by omega]
  constructor
  · rfl
  · simp; omega

theorem decimal_tells (d : Nat) : ∀ (k : Nat) (v : Int) (s : ByteArray), 0 ≤ v → v < 10 ^ d → v ≤ 1099511627776 → d ≤ 30 → s.size + d + 1 ≤ 100 → s.data.toList.all isDig = true → d + 2 ≤ k →
    ∃ r : ByteArray, groupcontrolref2_Decimal.l0 k v s = some r ∧ r.data.toList.all isDig = true ∧ r.data.toList ≠ [] ∧ val r.data.toList 0 = val s.data.toList v ∧ r.size ≤ s.size + d + 1 := by
  have zero_case : ∀ (k : Nat) (s : ByteArray), s.size ≤ 100 → s.data.toList.all isDig = true → 2 ≤ k → ∃ r : ByteArray, groupcontrolref2_Decimal.l0 k 0 s = some r ∧ r.data.toList.all isDig = true ∧ r.data.toList ≠ [] ∧ val r.data.toList 0 = val s.data.toList 0 ∧ r.size ≤ s.size + 1 := by
    intro k s hsz hs hk
    obtain ⟨k, rfl⟩ : ∃ q, k = q + 2 := ⟨k - 2, by omega⟩
    simp only [groupcontrolref2_Decimal.l0]
    rw [if_neg (by omega)]
    by_cases he : s.toList = ([] : List UInt8)
    · obtain ⟨e1, e2⟩ := digit_byte 0 (by omega) (by omega)
      rw [if_pos he]
      simp only [Option.bind_some]
      rw [show Int.tmod 0 10 = 0 from rfl, show Int.tdiv 0 10 = 0 from rfl, e1, w64 (x := 0) (by omega) (by omega)]
      rw [Lib.toList_data] at he
      have hz : s.size = 0 := by show s.data.size = 0; rw [← Array.length_toList, he]; rfl
      rw [if_pos (by rw [hz]; decide)]
      rw [if_neg (by omega), if_neg (by rw [Lib.toList_data]; simp)]
      refine ⟨_, rfl, ?_, ?_, ?_, ?_⟩
      · simp [he, isDig]
      · simp
      · simp [he, val]
      · simp only [ByteArray.size_append, hz]; decide
    · rw [if_neg he]
      exact ⟨s, rfl, hs, by rw [← Lib.toList_data]; exact he, rfl, by omega⟩
  induction d with
  | zero =>
    intro k v s h0 h1 hb hd hsz hs hk
    obtain rfl : v = 0 := by simp at h1; omega
    obtain ⟨r, h⟩ := zero_case k s (by omega) hs (by omega)
    exact ⟨r, h.1, h.2.1, h.2.2.1, h.2.2.2.1, by have := h.2.2.2.2; omega⟩
  | succ d ih =>
    intro k v s h0 h1 hb hd hsz hs hk
    by_cases hv : v > 0
    · obtain ⟨k, rfl⟩ : ∃ q, k = q + 1 := ⟨k - 1, by omega⟩
      have hpow : (10 : Int) ^ (d + 1) = 10 * 10 ^ d := by rw [Int.pow_succ, Int.mul_comm]
      rw [hpow] at h1
      have ht : Int.tdiv v 10 = v / 10 := Int.tdiv_eq_ediv_of_nonneg h0
      have hm : Int.tmod v 10 = v % 10 := Int.tmod_eq_emod_of_nonneg h0
      simp only [groupcontrolref2_Decimal.l0]
      rw [if_pos hv]
      simp only [Option.bind_some]
      obtain ⟨e1, e2⟩ := digit_byte (v % 10) (by omega) (by omega)
      rw [hm, ht, e1, w64 (x := v / 10) (by omega) (by omega)]
      have hz : (⟨#[(48 + v % 10).toNat.toUInt8]⟩ ++ s : ByteArray).size = s.size + 1 := by rw [ByteArray.size_append]; show 1 + s.size = _; omega
      have hl : (⟨#[(48 + v % 10).toNat.toUInt8]⟩ ++ s : ByteArray).data.toList = (48 + v % 10).toNat.toUInt8 :: s.data.toList := by simp
      rw [if_pos (by show 1 + s.size ≤ _; omega)]
      obtain ⟨r, h⟩ := ih k (v / 10) (⟨#[(48 + v % 10).toNat.toUInt8]⟩ ++ s) (by omega) (by omega) (by omega) (by omega) (by omega) (by rw [hl, List.all_cons, hs]; simp only [isDig, e2]; simp; omega) (by omega)
      refine ⟨r, h.1, h.2.1, h.2.2.1, ?_, by have := h.2.2.2.2; omega⟩
      rw [h.2.2.2.1, hl]
      simp only [val, e2]
      congr 1
      omega
    · obtain rfl : v = 0 := by omega
      obtain ⟨r, h⟩ := zero_case k s (by omega) hs (by omega)
      exact ⟨r, h.1, h.2.1, h.2.2.1, h.2.2.2.1, by have := h.2.2.2.2; omega⟩

/-- A number's text: digits, at least one. -/
structure Num (s : ByteArray) (v : Int) : Prop where
  dig : s.data.toList.all isDig = true
  ne : s.data.toList ≠ []
  is : val s.data.toList 0 = v
  size : s.size ≤ 80
  lo : 0 ≤ v
  hi : v ≤ 8589934592

theorem ascii_of_dig (l : List UInt8) (h : l.all isDig = true) : asciiL l = true := by
  unfold asciiL
  rw [List.all_eq_true] at h ⊢
  intro c hc
  have := h c hc
  simp [isDig] at this ⊢
  omega
theorem digits_num {s : ByteArray} {v : Int} (h : Num s v) : number_digits.f s = some true := by
  unfold number_digits.f
  rw [if_pos (ascii_of_dig _ h.dig), h.dig]
  cases hl : s.data.toList with
  | nil => exact absurd hl h.ne
  | cons c l => rfl
theorem value_num {s : ByteArray} {v : Int} (h : Num s v) : number_value.f s 1099511627777 = some v := by
  unfold number_value.f
  have := h.lo
  have := h.hi
  rw [if_pos ⟨h.dig, by omega, by omega⟩, foldDig_val _ (by omega) _ h.dig 0 (by omega) (by omega), h.is]
  unfold mn
  rw [if_neg (by omega)]

theorem j0_num {s : ByteArray} {v : Int} (h : Num s v) (sh T Q : Int) (h0 : 0 ≤ sh) (hq : shr .i64 1099511627776 sh = Q) (hs : ∀ x, 0 ≤ x → x ≤ Q → shl .i64 x sh = x * T) (k : Nat) (hk : 1 ≤ k) :
    number_Parse.j0 k s sh = some (if Q < v then (0, 3) else (v * T, 0)) := by
  obtain ⟨k, rfl⟩ : ∃ q, k = q + 1 := ⟨k - 1, by omega⟩
  simp only [number_Parse.j0, digits_num h, value_num h, Option.bind_some, if_true]
  rw [if_pos h0, hq]
  by_cases hv : v > Q
  · rw [if_pos hv, if_pos (by omega)]
  · rw [if_neg hv, if_neg (by omega), hs v h.lo (by omega)]

theorem bt_last (s x : ByteArray) (c : UInt8) (hx : x.data.toList = [c]) : bt (s ++ x) ((s ++ x).size - 1 : Int) = (c.toNat : Int) := by
  have hs : (s ++ x).data.toList = s.data.toList ++ [c] := by simp [hx]
  have hsz : (s ++ x).size = s.size + 1 := by
    rw [ByteArray.size_append]
    have : x.size = 1 := by show x.data.size = 1; rw [← Array.length_toList, hx]; rfl
    omega
  unfold bt
  have hi : (((s ++ x).size : Int) - 1).toNat = s.size := by omega
  rw [dif_pos (by omega)]
  have : (s ++ x)[(((s ++ x).size : Int) - 1).toNat]'(by omega) = c := by
    show (s ++ x).data[(((s ++ x).size : Int) - 1).toNat]'(by show _ < (s ++ x).size; omega) = c
    rw [← Array.getElem_toList]
    have e : ∀ (l : List UInt8) (hl : l = s.data.toList ++ [c]) (i : Nat) (hi2 : i = s.data.toList.length) (hb : i < l.length), l[i] = c := by
      rintro l rfl i rfl hb
      simp
    exact e _ hs _ (by rw [hi]; simp) _
  rw [this]
theorem dig_last {s : ByteArray} {v : Int} (h : Num s v) : ∃ c : UInt8, bt s ((s.size : Int) - 1) = (c.toNat : Int) ∧ isDig c = true := by
  have hp : 0 < s.size := by
    rcases Nat.eq_zero_or_pos s.size with e | e
    · exact absurd (List.eq_nil_of_length_eq_zero (by simpa using e)) h.ne
    · exact e
  have hi : ((s.size : Int) - 1).toNat < s.size := by omega
  refine ⟨s[((s.size : Int) - 1).toNat]'hi, ?_, ?_⟩
  · unfold bt; rw [dif_pos hi]
  · have := h.dig
    rw [List.all_eq_true] at this
    exact this _ (by show s.data[((s.size : Int) - 1).toNat] ∈ s.data.toList; simp)
theorem head_dig {s : ByteArray} {v : Int} (h : Num s v) (x : ByteArray) : (s ++ x).toList ≠ ([109, 97, 120] : List UInt8) ∧ (s ++ x).toList ≠ ([] : List UInt8) := by
  have hd := h.dig
  have hn := h.ne
  rw [Lib.toList_data]
  have e : (s ++ x).data.toList = s.data.toList ++ x.data.toList := by simp
  rw [e]
  cases hl : s.data.toList with
  | nil => exact absurd hl hn
  | cons c l =>
    rw [hl, List.all_cons, Bool.and_eq_true] at hd
    refine ⟨fun he => ?_, by simp⟩
    simp only [List.cons_append, List.cons.injEq] at he
    have := hd.1
    rw [he.1] at this
    revert this
    decide

theorem idx_dig (c : UInt8) (h : isDig c = true) : Lib.indexByte [75, 77, 71, 84] c = -1 := by
  have hc : 48 ≤ c.toNat ∧ c.toNat ≤ 57 := by simpa [isDig] using h
  have hne : ∀ d : UInt8, 57 < d.toNat → (d == c) = false := fun d hd => by
    rw [beq_eq_false_iff_ne]
    rintro rfl
    omega
  simp only [Lib.indexByte, hne 75 (by decide), hne 77 (by decide), hne 71 (by decide), hne 84 (by decide)]
  rfl

/-- A number without a suffix. -/
theorem parse_plain {s : ByteArray} {v : Int} (h : Num s v) (k : Nat) (hk : 1 ≤ k) : number_Parse.f k s = some (v, 0) := by
  have hh := head_dig h ByteArray.empty
  rw [ByteArray.append_empty] at hh
  obtain ⟨c, hc, hcd⟩ := dig_last h
  have hsz := h.size
  have hp : 0 < s.size := by
    rcases Nat.eq_zero_or_pos s.size with e | e
    · exact absurd (List.eq_nil_of_length_eq_zero (by simpa using e)) h.ne
    · exact e
  have hlo := h.lo
  have hhi := h.hi
  unfold number_Parse.f
  rw [if_neg hh.1, if_neg hh.2, w64 (x := (s.size : Int) - 1) (by omega) (by omega), if_pos (by omega), if_pos (by omega), hc]
  unfold strings_IndexByte.f
  simp only [Option.bind_some, Int.toNat_natCast, UInt8.ofNat_toNat, Nat.toUInt8]
  rw [idx_dig c hcd, if_neg (by omega), j0_num h 0 1 1099511627776 (by omega) (by decide) (fun x hx0 hx1 => by unfold shl; rw [IntKind.wrap_i64]; simp; omega) k hk]
  rw [if_neg (by omega)]
  simp

/-- A number with a suffix. -/
theorem parse_suffix {s : ByteArray} {v : Int} (h : Num s v) (x : ByteArray) (c : UInt8) (i T Q : Int) (hx : x.data.toList = [c]) (hi : Lib.indexByte [75, 77, 71, 84] c = i) (hi0 : 0 ≤ i) (hi3 : i ≤ 3)
    (hq : shr .i64 1099511627776 (10 * (i + 1)) = Q) (hs : ∀ x, 0 ≤ x → x ≤ Q → shl .i64 x (10 * (i + 1)) = x * T) (k : Nat) (hk : 1 ≤ k) :
    number_Parse.f k (s ++ x) = some (if Q < v then (0, 3) else (v * T, 0)) := by
  have hh := head_dig h x
  have hsz := h.size
  have hxs : x.size = 1 := by show x.data.size = 1; rw [← Array.length_toList, hx]; rfl
  have hz : (s ++ x).size = s.size + 1 := by rw [ByteArray.size_append]; omega
  have hb := bt_last s x c hx
  have hcut : (s ++ x).extract 0 s.size = s := by
    apply ByteArray.ext
    apply Array.ext'
    have := ByteArray.data_extract (a := s ++ x) (b := 0) (e := s.size)
    rw [this]
    simp
    exact List.take_of_length_le (by simp)
  unfold number_Parse.f
  rw [if_neg hh.1, if_neg hh.2, w64 (x := ((s ++ x).size : Int) - 1) (by omega) (by omega), if_pos (by omega), if_pos (by omega), hb]
  unfold strings_IndexByte.f
  simp only [Option.bind_some, Int.toNat_natCast, UInt8.ofNat_toNat, Nat.toUInt8]
  rw [hi, if_pos (by omega), if_pos (by omega), w64 (x := i + 1) (by omega) (by omega), w64 (by omega) (by omega)]
  rw [show (((s ++ x).size : Int) - 1).toNat = s.size from by omega, hcut]
  exact j0_num h _ T Q (by omega) hq hs k hk

end Go.Proofs.Ytglanbhioedhcaa.Q
