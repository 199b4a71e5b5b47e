/- What graftbedref10's number and utf8 compute, as plain functions; no conditions beyond sizes. -/
import Derived.Test.YtggeahplncijbaaRefTen
import Derived.Test.YtggeahplncijbaaEscapeAll
set_option linter.unusedVariables false
set_option linter.unusedSimpArgs false
namespace Go.Proofs.Ytggeahplncijbaa.HScanTexts
open Go.RowKit Go.Proofs.YtggeahplncijbaaW.PrintWords Go.Proofs.YtggeahplncijbaaW.PrintLast Go.Proofs.YtggeahplncijbaaW.PrintMore Go.Proofs.Ytggeahplncijbaa.Val

def hexV (c : UInt8) : Int := if 48 ≤ (c.toNat : Int) ∧ (c.toNat : Int) ≤ 57 then (c.toNat : Int) - 48 else if 97 ≤ (c.toNat : Int) ∧ (c.toNat : Int) ≤ 102 then (c.toNat : Int) - 87 else if 65 ≤ (c.toNat : Int) ∧ (c.toNat : Int) ≤ 70 then (c.toNat : Int) - 55 else -1
theorem hexV_dgt (c : UInt8) : (if dgt c < 0 ∨ (c.toNat : Int) < 48 then hexV c = -1 else hexV c = dgt c) := by
  have h : ∀ n : Fin 256, (if dgt (UInt8.ofNat n.val) < 0 ∨ ((UInt8.ofNat n.val).toNat : Int) < 48 then hexV (UInt8.ofNat n.val) = -1 else hexV (UInt8.ofNat n.val) = dgt (UInt8.ofNat n.val)) := by decide +kernel
  have := h ⟨c.toNat, c.toNat_lt⟩
  simpa using this
theorem hexV_range (c : UInt8) : -1 ≤ hexV c ∧ hexV c ≤ 15 := by unfold hexV; repeat' split <;> omega
theorem hex_ev (c : UInt8) : Ev (fun k => graftbedref10_hex.f k (c.toNat : Int)) (hexV c) := by
  refine Ev.of (fun k => graftbedref10_hex.mono _ k) (k := 1) ?_
  have h : ∀ n : Fin 256, graftbedref10_hex.f 1 ((UInt8.ofNat n.val).toNat : Int) = some (hexV (UInt8.ofNat n.val)) := by decide +kernel
  have := h ⟨c.toNat, c.toNat_lt⟩
  simpa using this
def numGo (b : Int) : List UInt8 → Int → Int
  | [], n => n
  | c :: t, n => if hexV c < 0 ∨ b ≤ hexV c then -1 else numGo b t (n * b + hexV c)
theorem bt_drop (s : ByteArray) (m i : Nat) (hi : i < m) (hm : m ≤ s.size) : ∃ c, bt s (i : Int) = (c.toNat : Int) ∧ (s.data.toList.take m).drop i = c :: (s.data.toList.take m).drop (i + 1) := by
  have hl : i < (s.data.toList.take m).length := by simp; omega
  refine ⟨(s.data.toList.take m)[i], ?_, List.drop_eq_getElem_cons hl⟩
  unfold bt
  rw [dif_pos (show ((i : Nat) : Int).toNat < s.size by simp; omega)]
  simp
  rfl
theorem pow16_le {i j : Nat} (h : i ≤ j) : (16 : Int) ^ i ≤ 16 ^ j := by
  have := Nat.pow_le_pow_right (show 0 < 16 by omega) h
  exact_mod_cast this
theorem powb_le {b : Int} (h0 : 0 ≤ b) (h : b ≤ 16) (n : Nat) : b ^ n ≤ 16 ^ n := by
  obtain ⟨c, rfl⟩ := Int.eq_ofNat_of_zero_le h0
  have := Nat.pow_le_pow_left (show c ≤ 16 by omega) n
  exact_mod_cast this
theorem num_loop (s : ByteArray) (m : Nat) (b : Int) (hm : m ≤ s.size) (hm8 : m ≤ 8) (hb0 : 2 ≤ b) (hb1 : b ≤ 16) : ∀ (d i : Nat) (n : Int), i + d = m → 0 ≤ n → n < 16 ^ i →
    Ev (fun k => graftbedref10_number.l0 k s (m : Int) b n (i : Int)) (numGo b ((s.data.toList.take m).drop i) n)
  | 0, i, n, hid, h0, h1 => by
    obtain rfl : i = m := by omega
    rw [List.drop_eq_nil_of_le (by simp; omega)]
    refine Ev.step (f := fun _ => some n) (fun k => ?_) (Ev.now _)
    simp only [graftbedref10_number.l0]
    rw [if_neg (by omega)]
  | d + 1, i, n, hid, h0, h1 => by
    obtain ⟨c, hc, hdrop⟩ := bt_drop s m i (by omega) hm
    have hr := hexV_range c
    have hp : (16 : Int) ^ i ≤ 16 ^ 7 := pow16_le (by omega)
    have hps : (16 : Int) ^ (i + 1) = 16 ^ i * 16 := Int.pow_succ _ _
    have h7 : (16 : Int) ^ 7 = 268435456 := by decide
    have hnb0 : 0 ≤ n * b := Int.mul_nonneg h0 (by omega)
    have hnb1 : n * b ≤ n * 16 := Int.mul_le_mul_of_nonneg_left hb1 h0
    rw [hdrop, numGo]
    by_cases hg : hexV c < 0 ∨ b ≤ hexV c
    · rw [if_pos hg]
      refine Ev.step (f := fun k => (graftbedref10_hex.f k (c.toNat : Int)).bind fun t102 => if t102 < 0 then some (-1) else if t102 ≥ b then some (-1) else graftbedref10_number.l0 k s m b (wrap64 ((wrap64 (n * b)) + t102)) (wrap64 (i + 1))) (fun k => ?_) (Ev.bind (hex_ev c) ?_)
      · simp only [graftbedref10_number.l0]
        rw [if_pos (by omega), if_pos (by omega), if_pos (by omega), hc]
      · refine Ev.congr (fun k => ?_) (Ev.now (-1 : Int))
        rcases hg with hg | hg
        · rw [if_pos hg]
        · rw [if_neg (by omega), if_pos hg]
    · rw [if_neg hg]
      refine Ev.step (f := fun k => (graftbedref10_hex.f k (c.toNat : Int)).bind fun t102 => if t102 < 0 then some (-1) else if t102 ≥ b then some (-1) else graftbedref10_number.l0 k s m b (wrap64 ((wrap64 (n * b)) + t102)) (wrap64 (i + 1))) (fun k => ?_) (Ev.bind (hex_ev c) ?_)
      · simp only [graftbedref10_number.l0]
        rw [if_pos (by omega), if_pos (by omega), if_pos (by omega), hc]
      · have e1 : wrap64 ((wrap64 (n * b)) + hexV c) = n * b + hexV c := by unfold wrap64; omega
        have e2 : wrap64 ((i : Int) + 1) = ((i + 1 : Nat) : Int) := by unfold wrap64; omega
        refine Ev.congr (fun k => ?_) (num_loop s m b hm hm8 hb0 hb1 d (i + 1) (n * b + hexV c) (by omega) (by omega) (by omega))
        rw [if_neg (by omega), if_neg (by omega), e1, e2]
def numOf (s : ByteArray) (m : Nat) (b : Int) : Int := if s.size < m then -1 else numGo b (s.data.toList.take m) 0
theorem number_ev (s : ByteArray) (m : Nat) (b : Int) (hm8 : m ≤ 8) (hb0 : 2 ≤ b) (hb1 : b ≤ 16) : Ev (fun k => graftbedref10_number.f k s (m : Int) b) (numOf s m b) := by
  unfold numOf
  by_cases h : s.size < m
  · rw [if_pos h]
    refine Ev.congr (fun k => ?_) (Ev.now (-1 : Int))
    unfold graftbedref10_number.f
    rw [if_pos (by omega)]
  · rw [if_neg h]
    refine Ev.congr (fun k => ?_) (num_loop s m b (by omega) hm8 hb0 hb1 m 0 0 (by omega) (by omega) (by decide))
    unfold graftbedref10_number.f
    rw [if_neg (by omega)]
    rfl
theorem number_at (s : ByteArray) (m : Nat) (b : Int) (hm8 : m ≤ 8) (hb0 : 2 ≤ b) (hb1 : b ≤ 16) (w : World) :
    Calls Try.prog 25 #[.string s, .int .i64 m, .int .i64 b] w fun e w' => e = .returned (.int .i64 (numOf s m b)) ∧ Drawn0 w w' := by
  obtain ⟨k, h⟩ := (number_ev s m b hm8 hb0 hb1).rounds
  exact graftbedref10_number.calls k s m b _ w h

/-! the two readings of digits -/
theorem numGo_mono (b : Int) (hb : 1 ≤ b) : ∀ (l : List UInt8) (n : Int), 0 ≤ n → numGo b l n < 0 ∨ n ≤ numGo b l n
  | [], n, _ => .inr (Int.le_refl _)
  | c :: t, n, h0 => by
    rw [numGo]
    split
    · exact .inl (by omega)
    · rename_i hg
      have : n ≤ n * b := by have := Int.mul_le_mul_of_nonneg_left hb h0; omega
      rcases numGo_mono b hb t (n * b + hexV c) (by omega) with h | h
      · exact .inl h
      · exact .inr (by omega)
theorem val_num (b : Int) (hb : 1 ≤ b) : ∀ (l : List UInt8) (n : Int), 0 ≤ n → (∀ v, valGo b l n = some v → numGo b l n = v) ∧ (valGo b l n = none → numGo b l n < 0 ∨ 67108864 ≤ numGo b l n)
  | [], n, h0 => ⟨fun v h => (by simpa [valGo, numGo] using h), fun h => (by simp [valGo] at h)⟩
  | c :: t, n, h0 => by
    have hx := hexV_dgt c
    rw [valGo, numGo]
    by_cases hg : dgt c < 0 ∨ (c.toNat : Int) < 48
    · rw [if_pos hg] at hx
      rw [if_pos (by omega), if_pos (by omega)]
      exact ⟨fun v h => (by cases h), fun _ => .inl (by omega)⟩
    · rw [if_neg hg] at hx
      rw [hx]
      by_cases hb2 : b ≤ dgt c
      · rw [if_pos (by omega), if_pos (by omega)]
        exact ⟨fun v h => (by cases h), fun _ => .inl (by omega)⟩
      · rw [if_neg (show ¬ (dgt c < 0 ∨ b ≤ dgt c) by omega)]
        have hnb : n ≤ n * b := by have := Int.mul_le_mul_of_nonneg_left hb h0; omega
        by_cases hn : 67108864 ≤ n
        · rw [if_pos (by omega)]
          refine ⟨fun v h => (by cases h), fun _ => ?_⟩
          rcases numGo_mono b hb t (n * b + dgt c) (by omega) with h | h
          · exact .inl h
          · exact .inr (by omega)
        · rw [if_neg (by omega)]
          exact val_num b hb t _ (by omega)
theorem numGo_lt (b : Int) (hb : 1 ≤ b) : ∀ (l : List UInt8) (n : Int), 0 ≤ n → numGo b l n < (n + 1) * b ^ l.length
  | [], n, h0 => by simp [numGo]; omega
  | c :: t, n, h0 => by
    rw [numGo]
    have hp : 0 < b ^ t.length := Int.pow_pos (by omega)
    have hp2 : 0 < b ^ (c :: t).length := Int.pow_pos (by omega)
    split
    · have := Int.mul_pos (show 0 < n + 1 by omega) hp2; omega
    · rename_i hg
      refine Int.lt_of_lt_of_le (numGo_lt b hb t (n * b + hexV c) (by have := Int.mul_nonneg h0 (show 0 ≤ b by omega); omega)) ?_
      have : n * b + hexV c + 1 ≤ (n + 1) * b := by rw [Int.add_mul]; omega
      rw [List.length_cons, Int.pow_succ, Int.mul_comm (b ^ t.length) b, ← Int.mul_assoc]
      exact Int.mul_le_mul_of_nonneg_right this (Int.le_of_lt hp)
theorem val_some {s : ByteArray} {m : Nat} {b v : Int} (hb : 1 ≤ b) (h : Val.valOf s m b = some v) : numOf s m b = v := by
  unfold Val.valOf at h
  unfold numOf
  split at h
  · cases h
  · rw [if_neg ‹_›]; exact (val_num b hb _ 0 (by omega)).1 v h
theorem val_none {s : ByteArray} {m : Nat} {b : Int} (hb : 1 ≤ b) (h : Val.valOf s m b = none) : numOf s m b < 0 ∨ 67108864 ≤ numOf s m b := by
  unfold Val.valOf at h
  unfold numOf
  split
  · exact .inl (by omega)
  · rw [if_neg ‹_›] at h; exact (val_num b hb _ 0 (by omega)).2 h
theorem val_none_small {s : ByteArray} {m : Nat} {b : Int} (hb : 1 ≤ b) (hp : b ^ m ≤ 67108864) (h : Val.valOf s m b = none) : numOf s m b < 0 := by
  rcases val_none hb h with h | h
  · exact h
  · unfold numOf at h ⊢
    split at h
    · omega
    · rename_i hs
      rw [if_neg hs]
      have := numGo_lt b hb (s.data.toList.take m) 0 (by omega)
      rw [List.length_take, show min m s.data.toList.length = m by simp; omega] at this
      omega
theorem numOf_lt {s : ByteArray} {m : Nat} {b : Int} (hm : m ≤ 8) (hb : 1 ≤ b) (hb1 : b ≤ 16) : numOf s m b < 4294967296 := by
  unfold numOf
  split
  · omega
  · have := numGo_lt b hb (s.data.toList.take m) 0 (by omega)
    have h2 : b ^ (s.data.toList.take m).length ≤ 16 ^ 8 := by
      refine Int.le_trans (powb_le (by omega) hb1 _) (pow16_le ?_)
      rw [List.length_take]; omega
    have h3 : (16 : Int) ^ 8 = 4294967296 := by decide
    omega
end Go.Proofs.Ytggeahplncijbaa.HScanTexts
