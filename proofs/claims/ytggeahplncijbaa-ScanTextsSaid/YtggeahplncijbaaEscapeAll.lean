/- The contract of scan.escape in one: the plain function it computes; for texts below 2^47 bytes. -/
import Derived.Test.YtggeahplncijbaaEscape
set_option linter.unusedVariables false
set_option linter.unusedSimpArgs false
namespace Go.Proofs.Ytggeahplncijbaa.Val
open Go.RowKit Go.Proofs.YtggeahplncijbaaW.PrintWords Go.Proofs.YtggeahplncijbaaW.PrintLast Go.Proofs.YtggeahplncijbaaW.PrintMore

def saidB : ByteArray := ⟨#[7, 8, 12, 10, 13, 9, 11, 92, 34]⟩
def no2 : ByteArray × Nat := (⟨#[]⟩, 0)
def hd (s : ByteArray) : UInt8 := s.data.toList.headD 0
def tl (s : ByteArray) : ByteArray := s.extract 1 s.size
/-- scan.escape: what it says, how many bytes it takes. -/
def escOf (s : ByteArray) : ByteArray × Nat :=
  if s.size = 0 then no2
  else if 0 ≤ escI (hd s) then (saidB.extract (escI (hd s)).toNat ((escI (hd s)).toNat + 1), 1)
  else if 48 ≤ ((hd s).toNat : Int) ∧ ((hd s).toNat : Int) ≤ 57 then
    match valOf s 3 8 with
    | some v => if v < 256 then (⟨#[v.toNat.toUInt8]⟩, 3) else no2
    | none => no2
  else if ((hd s).toNat : Int) = 120 then
    match valOf (tl s) 2 16 with
    | some v => (⟨#[v.toNat.toUInt8]⟩, 3)
    | none => no2
  else if manyOf (hd s).toNat = 0 then no2
  else
    match valOf (tl s) (manyOf (hd s).toNat).toNat 16 with
    | some v => if Lib.validRune v = true then (Utf8.encode v, 1 + (manyOf (hd s).toNat).toNat) else no2
    | none => no2

theorem valGo_range (b : Int) (hb : 1 ≤ b) : ∀ (l : List UInt8) (n v : Int), 0 ≤ n → valGo b l n = some v → 0 ≤ v ∧ v < (n + 1) * b ^ l.length
  | [], n, v, h0, h => by
    simp [valGo] at h
    subst h
    simp
    omega
  | c :: t, n, v, h0, h => by
    rw [valGo] at h
    split at h
    · cases h
    · rename_i hg
      have hg' : 0 ≤ dgt c ∧ dgt c < b := by omega
      have hnb : 0 ≤ n * b := Int.mul_nonneg h0 (by omega)
      obtain ⟨h1, h2⟩ := valGo_range b hb t (n * b + dgt c) v (by omega) h
      refine ⟨h1, Int.lt_of_lt_of_le h2 ?_⟩
      have hp : 0 ≤ b ^ t.length := Int.pow_nonneg (by omega)
      have : n * b + dgt c + 1 ≤ (n + 1) * b := by rw [Int.add_mul]; omega
      rw [List.length_cons, Int.pow_succ, Int.mul_comm (b ^ t.length) b, ← Int.mul_assoc]
      exact Int.mul_le_mul_of_nonneg_right this hp
theorem valOf_nonneg {s : ByteArray} {m : Nat} {b v : Int} (hb : 1 ≤ b) (h : valOf s m b = some v) : 0 ≤ v := by
  unfold valOf at h
  split at h
  · cases h
  · exact (valGo_range b hb _ 0 v (by omega) h).1
theorem valOf_two {s : ByteArray} {v : Int} (h : valOf s 2 16 = some v) : v < 256 := by
  unfold valOf at h
  split at h
  · cases h
  · have := (valGo_range 16 (by omega) _ 0 v (by omega) h).2
    rw [List.length_take] at this
    have h2 : min 2 s.data.toList.length = 2 := by rename_i hs; simp; omega
    rw [h2] at this
    simpa using this
theorem valOf_size {s : ByteArray} {m : Nat} {b v : Int} (h : valOf s m b = some v) : m ≤ s.size := by
  unfold valOf at h
  split at h
  · cases h
  · omega
theorem many_range (c : Int) : 0 ≤ manyOf c ∧ manyOf c ≤ 8 := by unfold manyOf; repeat' split <;> omega
theorem tl_size (s : ByteArray) : (tl s).size = s.size - 1 := by simp [tl]
theorem escOf_le (s : ByteArray) : (escOf s).2 ≤ s.size := by
  unfold escOf
  split
  · exact Nat.zero_le _
  split
  · show 1 ≤ _; omega
  split
  · split
    · split
      · exact valOf_size ‹_›
      · exact Nat.zero_le _
    · exact Nat.zero_le _
  split
  · split
    · have := valOf_size ‹_›; rw [tl_size] at this; show 3 ≤ _; omega
    · exact Nat.zero_le _
  split
  · exact Nat.zero_le _
  · split
    · split
      · have := valOf_size ‹_›; rw [tl_size] at this; show 1 + _ ≤ _; omega
      · exact Nat.zero_le _
    · exact Nat.zero_le _
theorem said_at (i : Nat) (h : i ≤ 8) : ((⟨#[7, 8, 12, 10, 13, 9, 11, 92, 34]⟩ : ByteArray).extract i (i + 1)) = saidB.extract i (i + 1) := rfl

theorem value_of (s : ByteArray) (m : Nat) (b : Int) (hm : m ≤ 100) (hs : s.size ≤ 140737488351232) (hb0 : 2 ≤ b) (hb1 : b ≤ 16) {v : Int} (h : valOf s m b = some v) (W : World) :
    Calls Try.prog 32 #[.string s, .int .i64 m, .int .i32 b] W fun e w' => e = .returned (.tuple #[.int .i32 v, .bool true]) ∧ Below W.heap.size W w' := by
  have := value_at s m b W hm hs hb0 hb1
  rw [h] at this
  exact this
theorem value_none (s : ByteArray) (m : Nat) (b : Int) (hm : m ≤ 100) (hs : s.size ≤ 140737488351232) (hb0 : 2 ≤ b) (hb1 : b ≤ 16) (h : valOf s m b = none) (W : World) :
    Calls Try.prog 32 #[.string s, .int .i64 m, .int .i32 b] W fun e w' => e = .returned (.tuple #[.int .i32 0, .bool false]) ∧ Below W.heap.size W w' := by
  have := value_at s m b W hm hs hb0 hb1
  rw [h] at this
  exact this

theorem escape_any (s : ByteArray) (w : World) (hs : s.size ≤ 140737488351232) :
    Calls Try.prog 20 #[.string s] w fun e w' => e = .returned (.tuple #[.string (escOf s).1, .int .i64 ((escOf s).2 : Nat)]) ∧ Below w.heap.size w w' := by
  by_cases h0 : s.size = 0
  · obtain rfl : s = ⟨#[]⟩ := by
      cases s with
      | mk d => have : d = #[] := Array.eq_empty_of_size_eq_zero h0; rw [this]
    exact esc_empty w
  · have hp : 0 < s.size := by omega
    have hc : s[0] = hd s := by
      cases s with
      | mk d =>
        cases d with
        | mk l =>
          cases l with
          | nil => exact absurd rfl h0
          | cons a r => rfl
    have he : s.toList.isEmpty = false := by
      have : s.toList = s.data.toList := Lib.toList_data s
      rw [this]
      cases hl : s.data.toList with
      | nil => exfalso; apply h0; have : s.data.toList.length = 0 := by rw [hl]; rfl
               simpa using this
      | cons _ _ => rfl
    have he2 : ¬ s.toList = [] := fun h => by rw [h] at he; cases he
    have ht : (tl s).size ≤ 140737488351232 := by rw [tl_size]; omega
    have h255 : ((hd s).toNat : Int) ≤ 255 := by have := (hd s).toNat_lt; omega
    have hmr := many_range ((hd s).toNat : Int)
    obtain ⟨hr0, hr1⟩ := escI_range (hd s)
    unfold escOf
    rw [if_neg h0]
    by_cases hi : 0 ≤ escI (hd s)
    · rw [if_pos hi]
      exact esc_one s (hd s) w hp hc he he2 _ rfl hi hr1
    · rw [if_neg hi]
      have hi' : escI (hd s) = -1 := by omega
      by_cases hd0 : 48 ≤ ((hd s).toNat : Int) ∧ ((hd s).toNat : Int) ≤ 57
      · rw [if_pos hd0]
        cases hv : valOf s 3 8 with
        | none => exact esc_digit_no s _ w hp hc hs he he2 hi' hd0.1 hd0.2 0 (value_none s 3 8 (by omega) hs (by omega) (by omega) hv)
        | some v =>
          by_cases hv1 : v < 256
          · simp only [if_pos hv1]
            exact esc_digit_yes s _ w hp hc hs he he2 hi' hd0.1 hd0.2 v (valOf_nonneg (by omega) hv) hv1 (value_of s 3 8 (by omega) hs (by omega) (by omega) hv)
          · simp only [if_neg hv1]
            exact esc_digit_big s _ w hp hc hs he he2 hi' hd0.1 hd0.2 v (by omega) (value_of s 3 8 (by omega) hs (by omega) (by omega) hv)
      · rw [if_neg hd0]
        by_cases hx : ((hd s).toNat : Int) = 120
        · rw [if_pos hx]
          have hm2 : manyOf ((hd s).toNat : Int) = 2 := by unfold manyOf; rw [if_pos hx]
          cases hv : valOf (tl s) 2 16 with
          | none => exact esc_x_no s _ w hp hc hs he he2 hi' (by omega) h255 hm2 (beq_iff_eq.2 hx) 0 (value_none (tl s) 2 16 (by omega) ht (by omega) (by omega) hv)
          | some v => exact esc_x_yes s _ w hp hc hs he he2 hi' (by omega) h255 hm2 (beq_iff_eq.2 hx) v (valOf_nonneg (by omega) hv) (valOf_two hv) (value_of (tl s) 2 16 (by omega) ht (by omega) (by omega) hv)
        · rw [if_neg hx]
          by_cases hm0 : manyOf ((hd s).toNat : Int) = 0
          · rw [if_pos hm0]
            exact esc_else s _ w hp hc hs he he2 hi' hd0 h255 hm0 (beq_eq_false_iff_ne.2 hx)
          · rw [if_neg hm0]
            have hnd : 57 < ((hd s).toNat : Int) := by
              rcases Int.lt_or_le 57 ((hd s).toNat : Int) with h | h
              · exact h
              · exfalso
                apply hm0
                unfold manyOf
                rw [if_neg (by omega), if_neg (by omega), if_neg (by omega)]
            obtain ⟨m, hm⟩ : ∃ m : Nat, manyOf ((hd s).toNat : Int) = m := ⟨_, (Int.toNat_of_nonneg hmr.1).symm⟩
            rw [hm] at hmr hm0
            rw [hm, Int.toNat_natCast]
            cases hv : valOf (tl s) m 16 with
            | none => exact esc_u_no s _ w hp hc hs he he2 hi' hnd h255 m (by omega) hmr.2 hm (beq_eq_false_iff_ne.2 hx) 0 (value_none (tl s) m 16 (by omega) ht (by omega) (by omega) hv)
            | some v =>
              cases hr : Lib.validRune v with
              | false =>
                simp only [hr]
                exact esc_u_bad s _ w hp hc hs he he2 hi' hnd h255 m (by omega) hmr.2 hm (beq_eq_false_iff_ne.2 hx) v hr (value_of (tl s) m 16 (by omega) ht (by omega) (by omega) hv)
              | true =>
                simp only [hr, if_true]
                rw [show ((1 + m : Nat) : Int) = 1 + (m : Int) from by omega]
                exact esc_u_yes s _ w hp hc hs he he2 hi' hnd h255 m (by omega) hmr.2 hm (beq_eq_false_iff_ne.2 hx) v hr (value_of (tl s) m 16 (by omega) ht (by omega) (by omega) hv)
end Go.Proofs.Ytggeahplncijbaa.Val
