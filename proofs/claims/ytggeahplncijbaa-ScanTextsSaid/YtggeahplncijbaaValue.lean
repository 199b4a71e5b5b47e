/- Contracts of scan.value and scan.escape: the plain functions they compute; no conditions. -/
import Derived.Test.YtggeahplncijbaaHScanTextsx0
import Derived.Test.YtggeahplncijbaaShelf
import Derived.Lib.ConvBytes
import Derived.Lib.Hide
set_option linter.unusedVariables false
set_option linter.unusedSimpArgs false
namespace Go.Proofs.Ytggeahplncijbaa.Val
open Go.RowKit Go.Proofs.YtggeahplncijbaaW.PrintWords Go.Proofs.YtggeahplncijbaaW.PrintLast Go.Proofs.YtggeahplncijbaaW.PrintMore
attribute [local go_sem] max2_int min2_int max_two min_two max_three min_three max_four min_four

def hexL : List UInt8 := [48, 49, 50, 51, 52, 53, 54, 55, 56, 57, 97, 98, 99, 100, 101, 102]
def hexI (c : UInt8) : Int := Lib.indexByte hexL (c ||| 32)
theorem hexI_range (c : UInt8) : -1 ≤ hexI c ∧ hexI c ≤ 15 := by
  have h : ∀ n : Fin 256, -1 ≤ hexI (UInt8.ofNat n.val) ∧ hexI (UInt8.ofNat n.val) ≤ 15 := by decide +kernel
  have := h ⟨c.toNat, c.toNat_lt⟩
  simpa using this
def dgt (c : UInt8) : Int := if (c.toNat : Int) ≤ 57 then (c.toNat : Int) - 48 else hexI c
def valGo (base : Int) : List UInt8 → Int → Option Int
  | [], n => some n
  | c :: t, n => if dgt c < 0 ∨ base ≤ dgt c ∨ (c.toNat : Int) < 48 ∨ 67108864 ≤ n then none else valGo base t (n * base + dgt c)

theorem valGo_bad {b : Int} {c : UInt8} {t : List UInt8} {n : Int} (h : dgt c < 0 ∨ b ≤ dgt c ∨ (c.toNat : Int) < 48 ∨ 67108864 ≤ n) : valGo b (c :: t) n = none := by
  rw [valGo, if_pos h]
theorem valGo_ok {b : Int} {c : UInt8} {t : List UInt8} {n : Int} (h : ¬ (dgt c < 0 ∨ b ≤ dgt c ∨ (c.toNat : Int) < 48 ∨ 67108864 ≤ n)) : valGo b (c :: t) n = valGo b t (n * b + dgt c) := by
  rw [valGo, if_neg h]
theorem drop_at (x : ByteArray) (k : Nat) (h : k < x.size) : x.data.toList.drop k = x.data.toList.getD k 0 :: x.data.toList.drop (k + 1) := by
  have hl : k < x.data.toList.length := by simpa using h
  rw [List.drop_eq_getElem_cons hl]
  rw [List.getD_eq_getElem?_getD, List.getElem?_eq_getElem hl]
  rfl
theorem or_bits (c : UInt8) : (bits BinOp.or IntKind.u8 (c.toNat : Int) 32).toNat.toUInt8 = c ||| 32 := by
  have h : ∀ n : Fin 256, (bits BinOp.or IntKind.u8 ((UInt8.ofNat n.val).toNat : Int) 32).toNat.toUInt8 = UInt8.ofNat n.val ||| 32 := by decide +kernel
  have := h ⟨c.toNat, c.toNat_lt⟩
  simpa using this
theorem hex_at (c : UInt8) (w : World) : Calls Try.prog 30 #[.string ⟨#[48, 49, 50, 51, 52, 53, 54, 55, 56, 57, 97, 98, 99, 100, 101, 102]⟩, .int .u8 (bits BinOp.or IntKind.u8 (c.toNat : Int) 32)] w fun e w' => e = .returned (.int .i64 (hexI c)) ∧ w' = w := by
  refine (Try.strings_IndexByte _ _ _).mono ?_
  rintro e w' ⟨rfl, rfl⟩
  rw [or_bits]
  exact ⟨rfl, rfl⟩
theorem mul_bound (q b : Int) (h0 : 0 ≤ q) (h1 : q < 67108864) (hb0 : 2 ≤ b) (hb1 : b ≤ 16) : 0 ≤ q * b ∧ q * b ≤ 1073741808 := by
  refine ⟨Int.mul_nonneg h0 (by omega), ?_⟩
  have := Int.mul_le_mul (show q ≤ 67108863 by omega) hb1 (by omega) (by omega)
  omega

set_option maxHeartbeats 4000000 in
set_option maxRecDepth 100000 in
theorem value_loop (s : ByteArray) (m : Nat) (b : Int) (w : World) (h1 : m ≤ s.size) (hs : s.size ≤ 140737488351232) (hb0 : 2 ≤ b) (hb1 : b ≤ 16) (x : ByteArray) (hx : s.extract 0 m = x) (hxs : x.size = m) :
    Calls Try.prog 32 #[.string s, .int .i64 m, .int .i32 b] w fun e w' => e = .returned (.tuple #[.int .i32 ((valGo b x.data.toList 0).getD 0), .bool (valGo b x.data.toList 0).isSome]) ∧ Below w.heap.size w w' := by
  have hcv : ∀ W, (convert 9 68 (.string x)).run Try.prog W = .ok (.slice (some ⟨W.heap.size, 0, none⟩) m (grownCap W m 0 5)) (Lib.bytesWorld W 5 x) := fun W => by rw [← hxs]; exact Lib.run_convert_string_bytes (P := Try.prog) W 9 68 5 x Try.underlying9 Try.underlying68 Try.underlying5
  have Hxs := Lib.hid hxs
  clear hxs
  have hlt0 : decide (s.size < m) = false := decide_eq_false (by omega)
  go_enter Try.func32, Try.ntmps32
  go_wp2_with fail
  go_loopw [8, 10, 11, 21] (fun n _ _ i wr => ∃ (k : Nat) (q : Int), k ≤ m ∧ i = .int .i64 k ∧ n = .int .i32 q ∧ 0 ≤ q ∧ q ≤ 1073741839 ∧ Aside0 (valGo b (x.data.toList.drop k) q = valGo b x.data.toList 0) ∧ Below w.heap.size w wr ∧ (∀ j, j < m → wr.cell? ⟨w.heap.size, j, none⟩ = some (.int .u8 (x.data.toList.getD j 0).toNat)))
    (fun _ _ _ i _ => m - (intOf i).toNat)
  case atStart =>
    refine ⟨0, 0, by omega, rfl, rfl, by omega, by omega, ⟨rfl⟩, ?_, ?_⟩
    · exact bytes_below (Below.refl _ _) (Nat.le_refl _) _ _
    · intro j hj; exact Lib.bytesWorld_cell w 5 x j (by rw [Hxs.out]; exact hj)
  case round =>
    obtain ⟨k, q, hk, rfl, rfl, hq0, hq1, HV, hbw, hcells⟩ := hrel
    by_cases hlt : k < m
    · obtain ⟨c, hc⟩ : ∃ c, c = x.data.toList.getD k 0 := ⟨_, rfl⟩
      have hcell : wr.cell? ⟨w.heap.size, k, none⟩ = some (.int .u8 c.toNat) := by rw [hc]; exact hcells k hlt
      have HD := Aside0.mk (drop_at x k (by rw [Hxs.out]; exact hlt))
      rw [← hc] at HD
      have Hc := Lib.hid hc
      have HC := Aside0.mk hcells
      clear hc hcells
      obtain ⟨hr0, hr1⟩ := hexI_range c
      by_cases h57 : (c.toNat : Int) ≤ 57
      · have hd := Aside0.mk (show dgt c = (c.toNat : Int) - 48 from if_pos h57)
        by_cases hg : 0 ≤ (c.toNat : Int) - 48 ∧ (c.toNat : Int) - 48 < b ∧ 48 ≤ (c.toNat : Int) ∧ q < 67108864
        · obtain ⟨g0, g1, g2, g3⟩ := hg
          obtain ⟨m0, m1⟩ := mul_bound q b hq0 g3 hb0 hb1
          go_wp2_with (go_at_call 30; refine (hex_at _ _).mono ?_; rintro e w' ⟨rfl, rfl⟩)
          go_roundw
          case rel => exact ⟨k + 1, q * b + ((c.toNat : Int) - 48), by omega, by go_num, by first | rfl | go_num, by omega, by omega, ⟨by rw [← HV.out, HD.out, valGo_ok (by rw [hd.out]; omega), hd.out]⟩, hbw, HC.out⟩
          case measure => simp [intOf]; omega
        · have hn := Aside0.mk (show valGo b x.data.toList 0 = none by rw [← HV.out, HD.out]; exact valGo_bad (by rw [hd.out]; omega))
          go_wp2_with (go_at_call 30; refine (hex_at _ _).mono ?_; rintro e w' ⟨rfl, rfl⟩)
          all_goals (go_ret2; exact ⟨by rw [hn.out]; rfl, hbw⟩)
      · have hd := Aside0.mk (show dgt c = hexI c from if_neg h57)
        obtain ⟨h, hh⟩ : ∃ h, h = hexI c := ⟨_, rfl⟩
        have hx2 : ∀ W, Calls Try.prog 30 #[.string ⟨#[48, 49, 50, 51, 52, 53, 54, 55, 56, 57, 97, 98, 99, 100, 101, 102]⟩, .int .u8 (bits BinOp.or IntKind.u8 (c.toNat : Int) 32)] W fun e w' => e = .returned (.int .i64 h) ∧ w' = W := fun W => by rw [hh]; exact hex_at c W
        have HX := Aside0.mk hx2
        rw [← hh] at hr0 hr1 hd
        clear hh hx2
        by_cases hg : 0 ≤ h ∧ h < b ∧ 48 ≤ (c.toNat : Int) ∧ q < 67108864
        · obtain ⟨g0, g1, g2, g3⟩ := hg
          obtain ⟨m0, m1⟩ := mul_bound q b hq0 g3 hb0 hb1
          go_wp2_with (go_at_call 30; refine (HX.out _).mono ?_; rintro e w' ⟨rfl, rfl⟩)
          go_roundw
          case rel => exact ⟨k + 1, q * b + h, by omega, by go_num, by first | rfl | go_num, by omega, by omega, ⟨by rw [← HV.out, HD.out, valGo_ok (by rw [hd.out]; omega), hd.out]⟩, hbw, HC.out⟩
          case measure => simp [intOf]; omega
        · have hn := Aside0.mk (show valGo b x.data.toList 0 = none by rw [← HV.out, HD.out]; exact valGo_bad (by rw [hd.out]; omega))
          go_wp2_with (go_at_call 30; refine (HX.out _).mono ?_; rintro e w' ⟨rfl, rfl⟩)
          all_goals (go_ret2; exact ⟨by rw [hn.out]; rfl, hbw⟩)
    · have hv := Aside0.mk (show valGo b x.data.toList 0 = some q by rw [← HV.out, List.drop_eq_nil_of_le (by simp; rw [Hxs.out]; omega)]; rfl)
      go_wp2
      go_ret2
      exact ⟨by rw [hv.out]; rfl, hbw⟩

theorem value_short (s : ByteArray) (m : Nat) (b : Int) (w : World) (h1 : s.size < m) (hm : m ≤ 100) :
    Calls Try.prog 32 #[.string s, .int .i64 m, .int .i32 b] w fun e w' => e = .returned (.tuple #[.int .i32 0, .bool false]) ∧ Below w.heap.size w w' := by
  go_enter Try.func32, Try.ntmps32
  go_wp2
  go_ret2
  exact ⟨rfl, Below.refl _ _⟩

/-- What so many digits to a base are, with which the text begins. -/
def valOf (s : ByteArray) (m : Nat) (b : Int) : Option Int := if s.size < m then none else valGo b (s.data.toList.take m) 0
theorem value_at (s : ByteArray) (m : Nat) (b : Int) (w : World) (hm : m ≤ 100) (hs : s.size ≤ 140737488351232) (hb0 : 2 ≤ b) (hb1 : b ≤ 16) :
    Calls Try.prog 32 #[.string s, .int .i64 m, .int .i32 b] w fun e w' => e = .returned (.tuple #[.int .i32 ((valOf s m b).getD 0), .bool (valOf s m b).isSome]) ∧ Below w.heap.size w w' := by
  unfold valOf
  by_cases h : s.size < m
  · rw [if_pos h]; exact value_short s m b w h hm
  · rw [if_neg h]
    have e : s.data.toList.take m = (s.extract 0 m).data.toList := by simp
    rw [e]
    exact value_loop s m b w (by omega) hs hb0 hb1 _ rfl (by simp; omega)
end Go.Proofs.Ytggeahplncijbaa.Val
