/- What graftbedref10.utf8 computes: the rune's bytes, or none; for numbers below 2^32. -/
import Derived.Test.YtggeahplncijbaaRefNum
set_option linter.unusedVariables false
set_option linter.unusedSimpArgs false
namespace Go.Proofs.Ytggeahplncijbaa.HScanTexts
open Go.RowKit Go.Proofs.YtggeahplncijbaaW.PrintWords Go.Proofs.YtggeahplncijbaaW.PrintLast Go.Proofs.YtggeahplncijbaaW.PrintMore Go.Proofs.Ytggeahplncijbaa.Val

def utfOf (r : Int) : ByteArray := if Lib.validRune r = true then Utf8.encode r else ⟨#[]⟩
theorem utf_valid {r : Int} (h : Lib.validRune r = true) : Utf8.valid r = true := by
  unfold Lib.validRune at h
  unfold Utf8.valid
  simp only [decide_eq_true_eq] at h
  simp only [Bool.or_eq_true, Bool.and_eq_true, decide_eq_true_eq]
  omega
theorem utf_small (n : Nat) (hv : Utf8.valid (n : Int) = true) : Utf8.encode (n : Int) =
    if n < 0x80 then ⟨#[UInt8.ofNat n]⟩
    else if n < 0x800 then ⟨#[UInt8.ofNat (0xC0 + n / 64), UInt8.ofNat (0x80 + n % 64)]⟩
    else if n < 0x10000 then ⟨#[UInt8.ofNat (0xE0 + n / 4096), UInt8.ofNat (0x80 + n / 64 % 64), UInt8.ofNat (0x80 + n % 64)]⟩
    else ⟨#[UInt8.ofNat (0xF0 + n / 262144), UInt8.ofNat (0x80 + n / 4096 % 64), UInt8.ofNat (0x80 + n / 64 % 64), UInt8.ofNat (0x80 + n % 64)]⟩ := by
  unfold Utf8.encode
  simp only [hv, if_true, Int.toNat_natCast]
theorem w256 (c : Nat) (C : Int) (hC : C = (c : Int)) (m : Nat) (h : c + m < 256) : wrap64 (C + (m : Int)) % 256 = ((c + m : Nat) : Int) := by
  subst hC
  unfold wrap64
  omega
theorem str_one (a : Nat) : strOfNums [(a : Int)] = ⟨#[UInt8.ofNat a]⟩ := rfl
theorem str_two (a b : Nat) : strOfNums [(a : Int), (b : Int)] = ⟨#[UInt8.ofNat a, UInt8.ofNat b]⟩ := rfl
theorem str_three (a b c : Nat) : strOfNums [(a : Int), (b : Int), (c : Int)] = ⟨#[UInt8.ofNat a, UInt8.ofNat b, UInt8.ofNat c]⟩ := rfl
theorem str_four (a b c d : Nat) : strOfNums [(a : Int), (b : Int), (c : Int), (d : Int)] = ⟨#[UInt8.ofNat a, UInt8.ofNat b, UInt8.ofNat c, UInt8.ofNat d]⟩ := rfl
theorem utf_j0 (k n : Nat) (hn : n ≤ 1114111) (hv : Utf8.valid (n : Int) = true) : graftbedref10_utf8.j0 (k + 1) (n : Int) false = some (Utf8.encode (n : Int)) := by
  rw [utf_small n hv]
  simp only [graftbedref10_utf8.j0, Bool.false_eq_true, if_false]
  have e64 : wrap64 (Int.tdiv (n : Int) 64) = ((n / 64 : Nat) : Int) := by rw [Int.tdiv_eq_ediv_of_nonneg (by omega)]; unfold wrap64; omega
  have e4096 : wrap64 (Int.tdiv (n : Int) 4096) = ((n / 4096 : Nat) : Int) := by rw [Int.tdiv_eq_ediv_of_nonneg (by omega)]; unfold wrap64; omega
  have e262144 : wrap64 (Int.tdiv (n : Int) 262144) = ((n / 262144 : Nat) : Int) := by rw [Int.tdiv_eq_ediv_of_nonneg (by omega)]; unfold wrap64; omega
  have t0 : Int.tmod (n : Int) 64 = ((n % 64 : Nat) : Int) := by rw [Int.tmod_eq_emod_of_nonneg (by omega)]; omega
  have t1 : Int.tmod ((n / 64 : Nat) : Int) 64 = ((n / 64 % 64 : Nat) : Int) := by rw [Int.tmod_eq_emod_of_nonneg (by omega)]; omega
  have t2 : Int.tmod ((n / 4096 : Nat) : Int) 64 = ((n / 4096 % 64 : Nat) : Int) := by rw [Int.tmod_eq_emod_of_nonneg (by omega)]; omega
  rw [e64, e4096, e262144, t0, t1, t2]
  by_cases h1 : n < 128
  · rw [if_pos (by omega), if_pos h1, show (n : Int) % 256 = ((n : Nat) : Int) from by omega, str_one]
  · rw [if_neg (by omega), if_neg h1]
    by_cases h2 : n < 2048
    · rw [if_pos (by omega), if_pos h2]
      rw [w256 192 192 rfl (n / 64) (by omega), w256 128 128 rfl (n % 64) (by omega), str_two]
    · rw [if_neg (by omega), if_neg h2]
      by_cases h3 : n < 65536
      · rw [if_pos (by omega), if_pos h3]
        rw [w256 224 224 rfl (n / 4096) (by omega), w256 128 128 rfl (n / 64 % 64) (by omega), w256 128 128 rfl (n % 64) (by omega), str_three]
      · rw [if_neg (by omega), if_neg h3]
        rw [w256 240 240 rfl (n / 262144) (by omega), w256 128 128 rfl (n / 4096 % 64) (by omega), w256 128 128 rfl (n / 64 % 64) (by omega), w256 128 128 rfl (n % 64) (by omega), str_four]
theorem utf_no (k : Nat) (r : Int) : graftbedref10_utf8.j0 (k + 1) r true = some ⟨#[]⟩ := by
  simp only [graftbedref10_utf8.j0, if_true]
theorem utf8_one (r : Int) : graftbedref10_utf8.f 1 r = some (utfOf r) := by
  unfold graftbedref10_utf8.f utfOf
  by_cases h0 : r < 0
  · rw [if_pos h0, utf_no, if_neg (by unfold Lib.validRune; simp; omega)]
  · rw [if_neg h0]
    by_cases h1 : r > 1114111
    · rw [if_pos h1, utf_no, if_neg (by unfold Lib.validRune; simp; omega)]
    · rw [if_neg h1]
      by_cases h2 : r ≥ 55296
      · rw [if_pos h2]
        by_cases h3 : r < 57344
        · rw [decide_eq_true h3, utf_no, if_neg (by unfold Lib.validRune; simp; omega)]
        · have hv : Lib.validRune r = true := by unfold Lib.validRune; simp; omega
          rw [decide_eq_false h3, if_pos hv]
          obtain ⟨n, rfl⟩ := Int.eq_ofNat_of_zero_le (show 0 ≤ r by omega)
          exact utf_j0 0 n (by omega) (utf_valid hv)
      · have hv : Lib.validRune r = true := by unfold Lib.validRune; simp; omega
        rw [if_neg h2, if_pos hv]
        obtain ⟨n, rfl⟩ := Int.eq_ofNat_of_zero_le (show 0 ≤ r by omega)
        exact utf_j0 0 n (by omega) (utf_valid hv)
theorem utf8_at (r : Int) (w : World) : Calls Try.prog 26 #[.int .i64 r] w fun e w' => e = .returned (.string (utfOf r)) ∧ Below w.heap.size w w' :=
  graftbedref10_utf8.calls 1 r _ w (utf8_one r)
theorem encode_pos (r : Int) : 0 < (Utf8.encode r).size := by
  unfold Utf8.encode
  simp only
  repeat' split
  all_goals (first | (show 0 < 1; omega) | (show 0 < 2; omega) | (show 0 < 3; omega) | (show 0 < 4; omega))
end Go.Proofs.Ytggeahplncijbaa.HScanTexts
