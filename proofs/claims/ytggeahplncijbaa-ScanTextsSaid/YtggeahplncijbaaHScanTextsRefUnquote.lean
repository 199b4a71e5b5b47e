/- The contract of graftbedref10.Unquote: the very function that scan.Unquote computes; for texts below 2^45 bytes. -/
import Derived.Test.YtggeahplncijbaaRefUtf
import Derived.Test.YtggeahplncijbaaHScanTextsUnquote
set_option linter.unusedVariables false
set_option linter.unusedSimpArgs false
namespace Go.Proofs.Ytggeahplncijbaa.HScanTexts
open Go.RowKit Go.Proofs.YtggeahplncijbaaW.PrintWords Go.Proofs.YtggeahplncijbaaW.PrintLast Go.Proofs.YtggeahplncijbaaW.PrintMore Go.Proofs.Ytggeahplncijbaa.Val Go.Proofs.Ytggeahplncijbaa.Bld
attribute [local go_sem] max2_int min2_int max_two min_two max_three min_three max_four min_four

def suf (a : ByteArray) (i : Nat) : ByteArray := a.extract i a.size
theorem suf_size (a : ByteArray) (i : Nat) : (suf a i).size = a.size - i := by simp [suf]
theorem suf_list (a : ByteArray) (i : Nat) : (suf a i).data.toList = a.data.toList.drop i := by
  simp [suf]
  rw [List.take_of_length_le (by simp)]
theorem ext_list {a b : ByteArray} (h : a.data.toList = b.data.toList) : a = b := by
  cases a; cases b; simp only [ByteArray.mk.injEq]; exact Array.toList_inj.1 h
theorem suf_suf (a : ByteArray) (i n : Nat) : (suf a i).extract n (suf a i).size = suf a (i + n) := by
  apply ext_list
  have h : (suf a i).extract n (suf a i).size = suf (suf a i) n := rfl
  rw [h, suf_list, suf_list, suf_list, List.drop_drop]
theorem suf_tl (a : ByteArray) (i : Nat) : tl (suf a i) = suf a (i + 1) := suf_suf a i 1
theorem suf_zero (a : ByteArray) : suf a 0 = a := by apply ext_list; rw [suf_list]; rfl
theorem suf_hd (a : ByteArray) (i : Nat) (h : i < a.size) : hd (suf a i) = a[i] := by
  unfold hd
  rw [suf_list, List.drop_eq_getElem_cons (by simpa using h)]
  rfl
theorem one_char (a : ByteArray) (i : Nat) (h : i < a.size) (t : ByteArray) : (t ++ a.extract i (i + 1)).data.toList = t.data.toList ++ [a[i]] := by
  rw [ByteArray.data_append, Array.toList_append]
  congr 1
  simp
  rw [List.drop_eq_getElem_cons (by simpa using h)]
  simp [List.take_succ_cons]
  rfl
theorem lit_eq (h : UInt8) (n : Nat) (hn : n < 256) (hb : ((n : Int) == (h.toNat : Int)) = true) : h = UInt8.ofNat n := by
  have := beq_iff_eq.1 hb
  apply UInt8.toNat_inj.1
  simp
  omega
theorem lit_ne (h : UInt8) (n : Nat) (hn : n < 256) (hb : ((n : Int) == (h.toNat : Int)) = false) : h ≠ UInt8.ofNat n := by
  have := beq_eq_false_iff_ne.1 hb
  intro e
  have h2 := congrArg UInt8.toNat e
  simp at h2
  omega
theorem conv_drew (W : World) (n : Nat) (c : Int) (h0 : 0 ≤ c) (h1 : c ≤ 255) : (convert 68 9 (.slice (some ⟨W.heap.size, 0, none⟩) 1 1)).run Try.prog ((W.drewN n).alloc (.cells #[.int .u8 c] 5)) = .ok (.string ⟨#[c.toNat.toUInt8]⟩) ((W.drewN n).alloc (.cells #[.int .u8 c] 5)) := by
  have h := conv_one (W.drewN n) c h0 h1
  rwa [World.heap_drewN] at h
/-- What the look through the two texts has found behind k signs. -/
def uK (k : Nat) (c : UInt8) : ByteArray := if 0 ≤ escI c ∧ escI c < k then saidB.extract (escI c).toNat ((escI c).toNat + 1) else ⟨#[]⟩
theorem escI_at (c : UInt8) : ∀ k : Nat, k < 9 → (escI c = k ↔ c = escL.getD k 0) := by
  have h : ∀ n : Fin 256, ∀ k : Fin 9, (escI (UInt8.ofNat n.val) = k.val ↔ UInt8.ofNat n.val = escL.getD k.val 0) := by decide +kernel
  intro k hk
  have := h ⟨c.toNat, c.toNat_lt⟩ ⟨k, hk⟩
  simpa using this
theorem uK_hit (c : UInt8) (k : Nat) (h : escI c = k) : uK (k + 1) c = saidB.extract k (k + 1) := by
  unfold uK
  rw [if_pos (by omega), h]
  simp
theorem uK_miss (c : UInt8) (k : Nat) (h : escI c ≠ k) : uK (k + 1) c = uK k c := by
  unfold uK
  by_cases h1 : 0 ≤ escI c ∧ escI c < k
  · rw [if_pos h1, if_pos (by omega)]
  · rw [if_neg h1, if_neg (by omega)]

set_option maxHeartbeats 16000000 in
set_option maxRecDepth 100000 in
theorem ref_unquote (a0 : ByteArray) (w : World) (hs : a0.size ≤ 35184372087808) :
    Calls Try.prog 10 #[.string a0] w fun e w' => e = .returned (match unqF a0.size a0 [] with | some l => .tuple #[.string ⟨l.toArray⟩, .bool true] | none => .tuple #[.string ⟨#[]⟩, .bool false]) ∧ Below w.heap.size w w' := by
  obtain ⟨R, hR⟩ : ∃ R, R = (match unqF a0.size a0 [] with | some l => (.tuple #[.string ⟨l.toArray⟩, .bool true] : Value) | none => .tuple #[.string ⟨#[]⟩, .bool false]) := ⟨_, rfl⟩
  have HR := Aside0.mk hR
  rw [← hR]
  clear hR
  go_enter Try.func10, Try.ntmps10
  go_wp2_with fail
  go_loopw [6, 7, 8, 9, 10] (fun tv iv _ _ _ wr => ∃ (i k : Nat) (t : ByteArray), tv = .string t ∧ iv = .int .i64 i ∧ i ≤ a0.size ∧ a0.size ≤ k + i ∧ t.size ≤ 4 * i ∧ Below w.heap.size w wr ∧ Aside0 (unqF k (suf a0 i) t.data.toList = unqF a0.size a0 []))
    (fun _ iv _ _ _ _ => a0.size - (intOf iv).toNat)
  case atStart => exact ⟨0, a0.size, ⟨#[]⟩, rfl, rfl, Nat.zero_le _, Nat.le_refl _, Nat.zero_le _, Below.refl _ _, ⟨by rw [suf_zero]⟩⟩
  case round =>
    obtain ⟨i, k, t, rfl, rfl, hi, hk, ht, hbw, HU⟩ := hrel
    by_cases h0 : i < a0.size
    · obtain ⟨k, rfl⟩ : ∃ m, k = m + 1 := ⟨k - 1, by omega⟩
      have hU := HU.out
      have hz := suf_size a0 i
      rw [unqF, if_neg (by omega), suf_hd a0 i h0, suf_tl] at hU
      clear hz HU
      obtain ⟨c, hc⟩ : ∃ c, a0[i] = c := ⟨_, rfl⟩
      rw [hc] at hU
      have hc255 : (c.toNat : Int) ≤ 255 := by have := c.toNat_lt; omega
      by_cases h10 : (c.toNat : Int) = 10 ∨ (c.toNat : Int) = 34
      · rw [if_pos h10] at hU
        have HRa := Aside0.mk (show R = .tuple #[.string ⟨#[]⟩, .bool false] by rw [HR.out, ← hU])
        clear hU HR
        rcases h10 with h10 | h10
        · have e10 : ((c.toNat : Int) == 10) = true := beq_iff_eq.2 h10
          clear h10
          go_wp2_with fail
          go_ret2
          exact ⟨by rw [HRa.out]; rfl, hbw⟩
        · have e10 : ((c.toNat : Int) == 10) = false := beq_eq_false_iff_ne.2 (by omega)
          have e34 : ((c.toNat : Int) == 34) = true := beq_iff_eq.2 h10
          clear h10
          go_wp2_with fail
          go_ret2
          exact ⟨by rw [HRa.out]; rfl, hbw⟩
      · rw [if_neg h10] at hU
        have e10 : ((c.toNat : Int) == 10) = false := beq_eq_false_iff_ne.2 (by omega)
        have e34 : ((c.toNat : Int) == 34) = false := beq_eq_false_iff_ne.2 (by omega)
        clear h10
        by_cases h92 : (c.toNat : Int) = 92
        · rw [if_pos h92] at hU
          have e92 : ((c.toNat : Int) != 92) = false := by simp [h92]
          clear h92
          have HUa := Aside0.mk hU
          clear hU
          by_cases h1 : i + 1 < a0.size
          · obtain ⟨h, hh⟩ : ∃ h, a0[i + 1] = h := ⟨_, rfl⟩
            have h255 : (h.toNat : Int) ≤ 255 := by have := h.toNat_lt; omega
            have eL : ((i : Int) + 1 == (a0.size : Int)) = false := beq_eq_false_iff_ne.2 (by omega)
            have hhd := Aside0.mk (suf_hd a0 (i + 1) h1)
            have Hh := Aside0.mk hh
            go_wp2_with fail
            obtain ⟨wo, rfl⟩ : ∃ wo : World, wo = wr := ⟨_, rfl⟩
            go_loopw [8, 9] (fun uv kv wq => ∃ j : Nat, j ≤ 9 ∧ kv = .int .i64 j ∧ uv = .string (uK j h) ∧ Below w.heap.size w wq)
              (fun _ kv _ => 9 - (intOf kv).toNat)
            case atStart => exact ⟨0, Nat.zero_le _, rfl, by simp [uK]; omega, hbw⟩
            case round =>
              obtain ⟨j, hj, rfl, rfl, hbq⟩ := hrel
              by_cases hj9 : j < 9
              · have hx := escI_at h j hj9
                have h1' : (i : Int) + 1 < (a0.size : Int) := by omega
                have h1'' : 0 ≤ (i : Int) + 1 := by omega
                have ht' : ((i : Int) + 1).toNat = i + 1 := by omega
                have HX := Aside0.mk hx
                clear hx
                have hj' : j = 0 ∨ j = 1 ∨ j = 2 ∨ j = 3 ∨ j = 4 ∨ j = 5 ∨ j = 6 ∨ j = 7 ∨ j = 8 := by omega
                rcases hj' with rfl | rfl | rfl | rfl | rfl | rfl | rfl | rfl | rfl
                · go_wp2_with fail
                  go_quiet (fail)
                  go_wp2
                  · have hb : ((97 : Int) == (h.toNat : Int)) = true := by assumption
                    exact ⟨⟨1, by omega, rfl, by rw [uK_hit h 0 (HX.out.2 (lit_eq h 97 (by decide) hb))]; rfl, pw_below_drewN hbq _⟩, by simp [intOf]⟩
                  · have hb : ((97 : Int) == (h.toNat : Int)) = false := by assumption
                    exact ⟨⟨1, by omega, rfl, by rw [uK_miss h 0 (fun e => lit_ne h 97 (by decide) hb (HX.out.1 e))], pw_below_drewN hbq _⟩, by simp [intOf]⟩
                · go_wp2_with fail
                  go_quiet (fail)
                  go_wp2
                  · have hb : ((98 : Int) == (h.toNat : Int)) = true := by assumption
                    exact ⟨⟨2, by omega, rfl, by rw [uK_hit h 1 (HX.out.2 (lit_eq h 98 (by decide) hb))]; rfl, pw_below_drewN hbq _⟩, by simp [intOf]⟩
                  · have hb : ((98 : Int) == (h.toNat : Int)) = false := by assumption
                    exact ⟨⟨2, by omega, rfl, by rw [uK_miss h 1 (fun e => lit_ne h 98 (by decide) hb (HX.out.1 e))], pw_below_drewN hbq _⟩, by simp [intOf]⟩
                · go_wp2_with fail
                  go_quiet (fail)
                  go_wp2
                  · have hb : ((102 : Int) == (h.toNat : Int)) = true := by assumption
                    exact ⟨⟨3, by omega, rfl, by rw [uK_hit h 2 (HX.out.2 (lit_eq h 102 (by decide) hb))]; rfl, pw_below_drewN hbq _⟩, by simp [intOf]⟩
                  · have hb : ((102 : Int) == (h.toNat : Int)) = false := by assumption
                    exact ⟨⟨3, by omega, rfl, by rw [uK_miss h 2 (fun e => lit_ne h 102 (by decide) hb (HX.out.1 e))], pw_below_drewN hbq _⟩, by simp [intOf]⟩
                · go_wp2_with fail
                  go_quiet (fail)
                  go_wp2
                  · have hb : ((110 : Int) == (h.toNat : Int)) = true := by assumption
                    exact ⟨⟨4, by omega, rfl, by rw [uK_hit h 3 (HX.out.2 (lit_eq h 110 (by decide) hb))]; rfl, pw_below_drewN hbq _⟩, by simp [intOf]⟩
                  · have hb : ((110 : Int) == (h.toNat : Int)) = false := by assumption
                    exact ⟨⟨4, by omega, rfl, by rw [uK_miss h 3 (fun e => lit_ne h 110 (by decide) hb (HX.out.1 e))], pw_below_drewN hbq _⟩, by simp [intOf]⟩
                · go_wp2_with fail
                  go_quiet (fail)
                  go_wp2
                  · have hb : ((114 : Int) == (h.toNat : Int)) = true := by assumption
                    exact ⟨⟨5, by omega, rfl, by rw [uK_hit h 4 (HX.out.2 (lit_eq h 114 (by decide) hb))]; rfl, pw_below_drewN hbq _⟩, by simp [intOf]⟩
                  · have hb : ((114 : Int) == (h.toNat : Int)) = false := by assumption
                    exact ⟨⟨5, by omega, rfl, by rw [uK_miss h 4 (fun e => lit_ne h 114 (by decide) hb (HX.out.1 e))], pw_below_drewN hbq _⟩, by simp [intOf]⟩
                · go_wp2_with fail
                  go_quiet (fail)
                  go_wp2
                  · have hb : ((116 : Int) == (h.toNat : Int)) = true := by assumption
                    exact ⟨⟨6, by omega, rfl, by rw [uK_hit h 5 (HX.out.2 (lit_eq h 116 (by decide) hb))]; rfl, pw_below_drewN hbq _⟩, by simp [intOf]⟩
                  · have hb : ((116 : Int) == (h.toNat : Int)) = false := by assumption
                    exact ⟨⟨6, by omega, rfl, by rw [uK_miss h 5 (fun e => lit_ne h 116 (by decide) hb (HX.out.1 e))], pw_below_drewN hbq _⟩, by simp [intOf]⟩
                · go_wp2_with fail
                  go_quiet (fail)
                  go_wp2
                  · have hb : ((118 : Int) == (h.toNat : Int)) = true := by assumption
                    exact ⟨⟨7, by omega, rfl, by rw [uK_hit h 6 (HX.out.2 (lit_eq h 118 (by decide) hb))]; rfl, pw_below_drewN hbq _⟩, by simp [intOf]⟩
                  · have hb : ((118 : Int) == (h.toNat : Int)) = false := by assumption
                    exact ⟨⟨7, by omega, rfl, by rw [uK_miss h 6 (fun e => lit_ne h 118 (by decide) hb (HX.out.1 e))], pw_below_drewN hbq _⟩, by simp [intOf]⟩
                · go_wp2_with fail
                  go_quiet (fail)
                  go_wp2
                  · have hb : ((92 : Int) == (h.toNat : Int)) = true := by assumption
                    exact ⟨⟨8, by omega, rfl, by rw [uK_hit h 7 (HX.out.2 (lit_eq h 92 (by decide) hb))]; rfl, pw_below_drewN hbq _⟩, by simp [intOf]⟩
                  · have hb : ((92 : Int) == (h.toNat : Int)) = false := by assumption
                    exact ⟨⟨8, by omega, rfl, by rw [uK_miss h 7 (fun e => lit_ne h 92 (by decide) hb (HX.out.1 e))], pw_below_drewN hbq _⟩, by simp [intOf]⟩
                · go_wp2_with fail
                  go_quiet (fail)
                  go_wp2
                  · have hb : ((34 : Int) == (h.toNat : Int)) = true := by assumption
                    exact ⟨⟨9, by omega, rfl, by rw [uK_hit h 8 (HX.out.2 (lit_eq h 34 (by decide) hb))]; rfl, pw_below_drewN hbq _⟩, by simp [intOf]⟩
                  · have hb : ((34 : Int) == (h.toNat : Int)) = false := by assumption
                    exact ⟨⟨9, by omega, rfl, by rw [uK_miss h 8 (fun e => lit_ne h 34 (by decide) hb (HX.out.1 e))], pw_below_drewN hbq _⟩, by simp [intOf]⟩
              · obtain rfl : j = 9 := by omega
                have b1 : (i : Int) + 1 < (a0.size : Int) := by omega
                have b2 : 0 ≤ (i : Int) + 1 := by omega
                have b3 : ((i : Int) + 1).toNat = i + 1 := by omega
                have b4 : ((i : Int) + 1 + 1).toNat = i + 2 := by omega
                have b5 : (i : Int) + 1 + 1 ≤ (a0.size : Int) := by omega
                have hsuf1 : a0.extract (i + 1) a0.size = suf a0 (i + 1) := rfl
                have hsuf2 : a0.extract (i + 2) a0.size = suf a0 (i + 2) := rfl
                have hn0 : (suf a0 (i + 1)).size ≠ 0 := by rw [suf_size]; omega
                have hhd' := hhd.out
                rw [hh] at hhd'
                have hes : escOf (suf a0 (i + 1)) = escOf (suf a0 (i + 1)) := rfl
                conv at hes => rhs; unfold escOf
                rw [if_neg hn0, hhd', suf_tl] at hes
                rw [show i + 1 + 1 = i + 2 from rfl] at hes
                obtain ⟨hr0, hr1⟩ := escI_range h
                clear hhd hhd' hn0
                by_cases hI : 0 ≤ escI h
                · rw [if_pos hI] at hes
                  obtain ⟨U, hU⟩ : ∃ U, U = saidB.extract (escI h).toNat ((escI h).toNat + 1) := ⟨_, rfl⟩
                  have hu : uK 9 h = U := by unfold uK; rw [if_pos (by omega), hU]
                  have hU1 : U.size = 1 := by rw [hU]; show (saidB.extract _ _).size = 1; rw [ByteArray.size_extract, show saidB.size = 9 from rfl]; omega
                  rw [← hU] at hes
                  obtain ⟨hdd, he, he2⟩ := str_facts U (by omega)
                  clear hdd
                  have HUb := Aside0.mk (show unqF k (suf a0 (i + 2)) (t ++ U).data.toList = unqF a0.size a0 [] by
                    have := HUa.out
                    rw [hes, if_neg (show ¬ (1 : Nat) = 0 by decide), suf_suf] at this
                    rw [ByteArray.data_append, Array.toList_append]
                    exact this)
                  have hU1' : U.size ≤ 1 := by omega
                  clear hes hU HUa HR hr0 hr1 hI hU1
                  go_wp2_with fail
                  go_roundw
                  case rel => exact ⟨i + 2, k, t ++ U, by simp, by go_num, by omega, by omega, by rw [ByteArray.size_append]; omega, hbq, HUb⟩
                  case measure => simp [intOf]; omega
                · rw [if_neg hI] at hes
                  have hu : uK 9 h = ⟨#[]⟩ := by unfold uK; rw [if_neg (by omega)]
                  clear hr0 hr1 hI
                  by_cases hd : 48 ≤ (h.toNat : Int) ∧ (h.toNat : Int) ≤ 57
                  · rw [if_pos hd] at hes
                    obtain ⟨hd0, hd1⟩ := hd
                    have hnum := fun W => number_at (suf a0 (i + 1)) 3 8 (by omega) (by omega) (by omega) W
                    have hlt : numOf (suf a0 (i + 1)) 3 8 < 4294967296 := numOf_lt (by omega) (by omega) (by omega)
                    obtain ⟨N, hN⟩ : ∃ N, numOf (suf a0 (i + 1)) 3 8 = N := ⟨_, rfl⟩
                    rw [hN] at hnum hlt
                    have HN := Aside0.mk hnum
                    by_cases hok : 0 ≤ N ∧ N < 256
                    · obtain ⟨hok0, hok1⟩ := hok
                      have hv : Val.valOf (suf a0 (i + 1)) 3 8 = some N := by
                        cases hv : Val.valOf (suf a0 (i + 1)) 3 8 with
                        | none => have := val_none_small (by omega) (by decide) hv; omega
                        | some v => rw [← val_some (by omega) hv, hN]
                      have hsz := valOf_size hv
                      rw [suf_size] at hsz
                      rw [hv] at hes
                      simp only [if_pos hok1] at hes
                      have hcv := fun W n => conv_drew W n N hok0 (by omega)
                      have hm : N % 256 = N := by omega
                      have HUb := Aside0.mk (show unqF k (suf a0 (i + 4)) (t ++ ⟨#[N.toNat.toUInt8]⟩).data.toList = unqF a0.size a0 [] by
                        have := HUa.out
                        rw [hes, if_neg (show ¬ (3 : Nat) = 0 by decide), suf_suf] at this
                        rw [ByteArray.data_append, Array.toList_append]
                        exact this)
                      clear hes hv hN hnum HUa HR
                      go_wp2_with (first | (go_at_call 25; refine (HN.out _).mono ?_; rintro e w' ⟨rfl, hd⟩; obtain ⟨nd, rfl⟩ := hd.out) | go_in)
                      go_roundw
                      case rel => exact ⟨i + 4, k, t ++ ⟨#[N.toNat.toUInt8]⟩, by simp, by go_num, by omega, by omega, by rw [ByteArray.size_append]; show _ + 1 ≤ _; omega, below_alloc (pw_below_drewN hbq _) _, HUb⟩
                      case measure => simp [intOf]; omega
                    · have hes : escOf (suf a0 (i + 1)) = no2 := by
                        rw [hes]
                        cases hv : Val.valOf (suf a0 (i + 1)) 3 8 with
                        | none => rfl
                        | some v => have := val_some (by omega) hv; have := valOf_nonneg (by omega) hv; simp only; rw [if_neg (by omega)]
                      have HRa := Aside0.mk (show R = .tuple #[.string ⟨#[]⟩, .bool false] by have := HUa.out; rw [hes, if_pos (show no2.2 = 0 from rfl)] at this; rw [HR.out, ← this])
                      clear hes HR HUa
                      clear hN hnum
                      rcases Int.lt_or_le N 0 with hneg | hneg
                      · clear hok
                        go_wp2_with (first | (go_at_call 25; refine (HN.out _).mono ?_; rintro e w' ⟨rfl, hd⟩; obtain ⟨nd, rfl⟩ := hd.out) | go_in)
                        go_ret2
                        exact ⟨by rw [HRa.out]; rfl, pw_below_drewN hbq _⟩
                      · have hbig : 256 ≤ N := by omega
                        clear hok
                        go_wp2_with (first | (go_at_call 25; refine (HN.out _).mono ?_; rintro e w' ⟨rfl, hd⟩; obtain ⟨nd, rfl⟩ := hd.out) | go_in)
                        go_ret2
                        exact ⟨by rw [HRa.out]; rfl, pw_below_drewN hbq _⟩
                  · rw [if_neg hd] at hes
                    by_cases hx : (h.toNat : Int) = 120
                    · rw [if_pos hx] at hes
                      have ex : ((h.toNat : Int) == 120) = true := beq_iff_eq.2 hx
                      have h57 : 57 < (h.toNat : Int) := by omega
                      have hnum := fun W => number_at (suf a0 (i + 2)) 2 16 (by omega) (by omega) (by omega) W
                      have hlt : numOf (suf a0 (i + 2)) 2 16 < 4294967296 := numOf_lt (by omega) (by omega) (by omega)
                      obtain ⟨N, hN⟩ : ∃ N, numOf (suf a0 (i + 2)) 2 16 = N := ⟨_, rfl⟩
                      rw [hN] at hnum hlt
                      have HN := Aside0.mk hnum
                      clear hx hd
                      by_cases hok0 : 0 ≤ N
                      · have hv : Val.valOf (suf a0 (i + 2)) 2 16 = some N := by
                          cases hv : Val.valOf (suf a0 (i + 2)) 2 16 with
                          | none => have := val_none_small (by omega) (by decide) hv; omega
                          | some v => rw [← val_some (by omega) hv, hN]
                        have hsz := valOf_size hv
                        have hok1 := valOf_two hv
                        rw [suf_size] at hsz
                        rw [hv] at hes
                        simp only at hes
                        have hcv := fun W n => conv_drew W n N hok0 (by omega)
                        have hm : N % 256 = N := by omega
                        have HUb := Aside0.mk (show unqF k (suf a0 (i + 4)) (t ++ ⟨#[N.toNat.toUInt8]⟩).data.toList = unqF a0.size a0 [] by
                          have := HUa.out
                          rw [hes, if_neg (show ¬ (3 : Nat) = 0 by decide), suf_suf] at this
                          rw [ByteArray.data_append, Array.toList_append]
                          exact this)
                        clear hes hv hN hnum HUa HR
                        go_wp2_with (first | (go_at_call 25; refine (HN.out _).mono ?_; rintro e w' ⟨rfl, hd⟩; obtain ⟨nd, rfl⟩ := hd.out) | go_in)
                        go_roundw
                        case rel => exact ⟨i + 4, k, t ++ ⟨#[N.toNat.toUInt8]⟩, by simp, by go_num, by omega, by omega, by rw [ByteArray.size_append]; show _ + 1 ≤ _; omega, below_alloc (pw_below_drewN hbq _) _, HUb⟩
                        case measure => simp [intOf]; omega
                      · have hes : escOf (suf a0 (i + 1)) = no2 := by
                          rw [hes]
                          cases hv : Val.valOf (suf a0 (i + 2)) 2 16 with
                          | none => rfl
                          | some v => have := val_some (by omega) hv; have := valOf_nonneg (by omega) hv; omega
                        have HRa := Aside0.mk (show R = .tuple #[.string ⟨#[]⟩, .bool false] by have := HUa.out; rw [hes, if_pos (show no2.2 = 0 from rfl)] at this; rw [HR.out, ← this])
                        clear hes HR HUa
                        have hneg : N < 0 := by omega
                        clear hN hnum hok0
                        go_wp2_with (first | (go_at_call 25; refine (HN.out _).mono ?_; rintro e w' ⟨rfl, hd⟩; obtain ⟨nd, rfl⟩ := hd.out) | go_in)
                        go_ret2
                        exact ⟨by rw [HRa.out]; rfl, pw_below_drewN hbq _⟩
                    · rw [if_neg hx] at hes
                      have ex : ((h.toNat : Int) == 120) = false := beq_eq_false_iff_ne.2 hx
                      clear hx
                      by_cases hq : (h.toNat : Int) = 117
                      · have hmm : manyOf (h.toNat : Int) = 4 := by rw [hq]; rfl
                        have h57 : 57 < (h.toNat : Int) := by omega
                        have eq1 : ((h.toNat : Int) == 117) = true := beq_iff_eq.2 hq
                        rw [hmm, if_neg (by decide), show (4 : Int).toNat = 4 from rfl] at hes
                        have hnum := fun W => number_at (suf a0 (i + 2)) 4 16 (by omega) (by omega) (by omega) W
                        have hlt : numOf (suf a0 (i + 2)) 4 16 < 4294967296 := numOf_lt (by omega) (by omega) (by omega)
                        obtain ⟨N, hN⟩ : ∃ N, numOf (suf a0 (i + 2)) 4 16 = N := ⟨_, rfl⟩
                        rw [hN] at hnum hlt
                        have HN := Aside0.mk hnum
                        clear hq hd hmm hnum
                        by_cases hvr : Lib.validRune N = true
                        · have hN2 : 0 ≤ N ∧ N ≤ 1114111 := by unfold Lib.validRune at hvr; simp at hvr; omega
                          have hv : Val.valOf (suf a0 (i + 2)) 4 16 = some N := by
                            cases hv : Val.valOf (suf a0 (i + 2)) 4 16 with
                            | none => rcases val_none (by omega) hv with h | h <;> omega
                            | some v => rw [← val_some (by omega) hv, hN]
                          have hsz := valOf_size hv
                          rw [suf_size] at hsz
                          rw [hv] at hes
                          simp only [if_pos hvr] at hes
                          obtain ⟨U, hU⟩ : ∃ U, U = Utf8.encode N := ⟨_, rfl⟩
                          have hU0 : 0 < U.size := by rw [hU]; exact encode_pos N
                          have hU4 : U.size ≤ 4 := by rw [hU]; exact encode_le N
                          obtain ⟨hdd, he, he2⟩ := str_facts U hU0
                          clear hdd
                          have H26 := Aside0.mk (fun W => utf8_at N W)
                          rw [show utfOf N = U by unfold utfOf; rw [if_pos hvr, hU]] at H26
                          rw [← hU] at hes
                          have HUb := Aside0.mk (show unqF k (suf a0 (i + 6)) (t ++ U).data.toList = unqF a0.size a0 [] by
                            have := HUa.out
                            rw [hes, if_neg (show ¬ (1 + 4 : Nat) = 0 by decide), suf_suf] at this
                            rw [ByteArray.data_append, Array.toList_append]
                            rw [show i + 1 + (1 + 4) = i + 6 from by omega] at this
                            exact this)
                          clear hes hv hN HUa HR hvr hU
                          go_wp2_with (first | (go_at_call 25; refine (HN.out _).mono ?_; rintro e w' ⟨rfl, hd⟩; obtain ⟨nd, rfl⟩ := hd.out) | (go_at_call 26; refine (H26.out _).mono ?_; rintro e w' ⟨rfl, hb26⟩) | go_in)
                          go_roundw
                          case rel => exact ⟨i + 6, k, t ++ U, by simp, by go_num, by omega, by omega, by rw [ByteArray.size_append]; omega, below_then (pw_below_drewN hbq _) (by have := hbq.size; simp; omega) hb26, HUb⟩
                          case measure => simp [intOf]; omega
                        · have hes : escOf (suf a0 (i + 1)) = no2 := by
                            rw [hes]
                            cases hv : Val.valOf (suf a0 (i + 2)) 4 16 with
                            | none => rfl
                            | some v => have := val_some (by omega) hv; rw [hN] at this; subst this; simp only; rw [if_neg hvr]
                          have HRa := Aside0.mk (show R = .tuple #[.string ⟨#[]⟩, .bool false] by have := HUa.out; rw [hes, if_pos (show no2.2 = 0 from rfl)] at this; rw [HR.out, ← this])
                          have H26 := Aside0.mk (fun W => utf8_at N W)
                          rw [show utfOf N = ⟨#[]⟩ by unfold utfOf; rw [if_neg hvr]] at H26
                          clear hes HR HUa hN hvr
                          go_wp2_with (first | (go_at_call 25; refine (HN.out _).mono ?_; rintro e w' ⟨rfl, hd⟩; obtain ⟨nd, rfl⟩ := hd.out) | (go_at_call 26; refine (H26.out _).mono ?_; rintro e w' ⟨rfl, hb26⟩) | go_in)
                          go_ret2
                          exact ⟨by rw [HRa.out]; rfl, below_then (pw_below_drewN hbq _) (by have := hbq.size; simp; omega) hb26⟩
                      · have e117 : ((h.toNat : Int) == 117) = false := beq_eq_false_iff_ne.2 hq
                        have hq117 := hq
                        clear hq
                        by_cases hq : (h.toNat : Int) = 85
                        · have hmm : manyOf (h.toNat : Int) = 8 := by rw [hq]; rfl
                          have h57 : 57 < (h.toNat : Int) := by omega
                          have eq1 : ((h.toNat : Int) == 85) = true := beq_iff_eq.2 hq
                          rw [hmm, if_neg (by decide), show (8 : Int).toNat = 8 from rfl] at hes
                          have hnum := fun W => number_at (suf a0 (i + 2)) 8 16 (by omega) (by omega) (by omega) W
                          have hlt : numOf (suf a0 (i + 2)) 8 16 < 4294967296 := numOf_lt (by omega) (by omega) (by omega)
                          obtain ⟨N, hN⟩ : ∃ N, numOf (suf a0 (i + 2)) 8 16 = N := ⟨_, rfl⟩
                          rw [hN] at hnum hlt
                          have HN := Aside0.mk hnum
                          clear hq hd hmm hnum
                          by_cases hvr : Lib.validRune N = true
                          · have hN2 : 0 ≤ N ∧ N ≤ 1114111 := by unfold Lib.validRune at hvr; simp at hvr; omega
                            have hv : Val.valOf (suf a0 (i + 2)) 8 16 = some N := by
                              cases hv : Val.valOf (suf a0 (i + 2)) 8 16 with
                              | none => rcases val_none (by omega) hv with h | h <;> omega
                              | some v => rw [← val_some (by omega) hv, hN]
                            have hsz := valOf_size hv
                            rw [suf_size] at hsz
                            rw [hv] at hes
                            simp only [if_pos hvr] at hes
                            obtain ⟨U, hU⟩ : ∃ U, U = Utf8.encode N := ⟨_, rfl⟩
                            have hU0 : 0 < U.size := by rw [hU]; exact encode_pos N
                            have hU4 : U.size ≤ 4 := by rw [hU]; exact encode_le N
                            obtain ⟨hdd, he, he2⟩ := str_facts U hU0
                            clear hdd
                            have H26 := Aside0.mk (fun W => utf8_at N W)
                            rw [show utfOf N = U by unfold utfOf; rw [if_pos hvr, hU]] at H26
                            rw [← hU] at hes
                            have HUb := Aside0.mk (show unqF k (suf a0 (i + 10)) (t ++ U).data.toList = unqF a0.size a0 [] by
                              have := HUa.out
                              rw [hes, if_neg (show ¬ (1 + 8 : Nat) = 0 by decide), suf_suf] at this
                              rw [ByteArray.data_append, Array.toList_append]
                              rw [show i + 1 + (1 + 8) = i + 10 from by omega] at this
                              exact this)
                            clear hes hv hN HUa HR hvr hU
                            go_wp2_with (first | (go_at_call 25; refine (HN.out _).mono ?_; rintro e w' ⟨rfl, hd⟩; obtain ⟨nd, rfl⟩ := hd.out) | (go_at_call 26; refine (H26.out _).mono ?_; rintro e w' ⟨rfl, hb26⟩) | go_in)
                            go_roundw
                            case rel => exact ⟨i + 10, k, t ++ U, by simp, by go_num, by omega, by omega, by rw [ByteArray.size_append]; omega, below_then (pw_below_drewN hbq _) (by have := hbq.size; simp; omega) hb26, HUb⟩
                            case measure => simp [intOf]; omega
                          · have hes : escOf (suf a0 (i + 1)) = no2 := by
                              rw [hes]
                              cases hv : Val.valOf (suf a0 (i + 2)) 8 16 with
                              | none => rfl
                              | some v => have := val_some (by omega) hv; rw [hN] at this; subst this; simp only; rw [if_neg hvr]
                            have HRa := Aside0.mk (show R = .tuple #[.string ⟨#[]⟩, .bool false] by have := HUa.out; rw [hes, if_pos (show no2.2 = 0 from rfl)] at this; rw [HR.out, ← this])
                            have H26 := Aside0.mk (fun W => utf8_at N W)
                            rw [show utfOf N = ⟨#[]⟩ by unfold utfOf; rw [if_neg hvr]] at H26
                            clear hes HR HUa hN hvr
                            go_wp2_with (first | (go_at_call 25; refine (HN.out _).mono ?_; rintro e w' ⟨rfl, hd⟩; obtain ⟨nd, rfl⟩ := hd.out) | (go_at_call 26; refine (H26.out _).mono ?_; rintro e w' ⟨rfl, hb26⟩) | go_in)
                            go_ret2
                            exact ⟨by rw [HRa.out]; rfl, below_then (pw_below_drewN hbq _) (by have := hbq.size; simp; omega) hb26⟩
                        · have e85 : ((h.toNat : Int) == 85) = false := beq_eq_false_iff_ne.2 hq
                          have hmm : manyOf (h.toNat : Int) = 0 := by
                            unfold manyOf
                            rw [if_neg (by have := beq_eq_false_iff_ne.1 ex; exact this), if_neg hq117, if_neg hq]
                          have hes : escOf (suf a0 (i + 1)) = no2 := by rw [hes, if_pos hmm]
                          have HRa := Aside0.mk (show R = .tuple #[.string ⟨#[]⟩, .bool false] by have := HUa.out; rw [hes, if_pos (show no2.2 = 0 from rfl)] at this; rw [HR.out, ← this])
                          clear hes HR HUa hq hq117 hmm
                          rcases Int.lt_or_le (h.toNat : Int) 48 with h48 | h48
                          · clear hd
                            go_wp2_with (first | go_in)
                            go_ret2
                            exact ⟨by rw [HRa.out]; rfl, hbq⟩
                          · have h57 : 57 < (h.toNat : Int) := by omega
                            clear hd
                            go_wp2_with (first | go_in)
                            go_ret2
                            exact ⟨by rw [HRa.out]; rfl, hbq⟩
          · have hu : escOf (suf a0 (i + 1)) = no2 := by
              unfold escOf
              rw [if_pos (by rw [suf_size]; omega)]
            have HRa := Aside0.mk (show R = .tuple #[.string ⟨#[]⟩, .bool false] by have := HUa.out; rw [hu, if_pos (show no2.2 = 0 from rfl)] at this; rw [HR.out, ← this])
            have eL : ((i : Int) + 1 == (a0.size : Int)) = true := beq_iff_eq.2 (by omega)
            clear hu HR HUa
            go_wp2_with fail
            go_ret2
            exact ⟨by rw [HRa.out]; rfl, hbw⟩
        · rw [if_neg h92] at hU
          have e92 : ((c.toNat : Int) != 92) = true := by simpa using h92
          have HUa := Aside0.mk hU
          clear hU h92
          have b1 : (i : Int) + 1 ≤ (a0.size : Int) := by omega
          have b2 : (i : Int) ≤ (i : Int) + 1 := by omega
          have b3 : 0 ≤ (i : Int) := by omega
          have ht' : ((i : Int) + 1).toNat = i + 1 := by omega
          have hts : t.size + (a0.extract i (i + 1)).size ≤ 9223372036854775807 := by simp; omega
          go_wp2_with fail
          go_roundw
          case rel => exact ⟨i + 1, k, t ++ a0.extract i (i + 1), by simp, by go_num, by omega, by omega, by simp; omega, hbw, ⟨by rw [one_char a0 i h0 t, hc]; exact HUa.out⟩⟩
          case measure => simp [intOf]; omega
    · have hU := HU.out
      have hl : (⟨t.data.toList.toArray⟩ : ByteArray) = t := by cases t; rfl
      have HRa := Aside0.mk (show R = .tuple #[.string t, .bool true] by
        rw [HR.out, ← hU]
        cases k with
        | zero => simp only [unqF]
        | succ k => rw [unqF, if_pos (by rw [suf_size]; omega)])
      clear hU HR HU hl
      go_wp2
      go_ret2
      exact ⟨by rw [HRa.out]; rfl, hbw⟩

/-- What graftbedref10.Unquote answers: what scan.Unquote does. -/
def graftbedref10_Unquote.f (a0 : ByteArray) : Option (ByteArray × Bool) := scan_Unquote.f a0
theorem graftbedref10_Unquote.calls (a0 : ByteArray) (r1 : ByteArray) (r2 : Bool) (w : World) (h : graftbedref10_Unquote.f a0 = some (r1, r2)) :
    Calls Try.prog 10 #[.string a0] w fun e w' => e = .returned (.tuple #[.string r1, .bool r2]) ∧ Below w.heap.size w w' := by
  unfold graftbedref10_Unquote.f scan_Unquote.f at h
  split at h
  · rename_i hs
    refine (ref_unquote a0 w hs).mono ?_
    rintro e w' ⟨rfl, hb⟩
    refine ⟨?_, hb⟩
    cases hu : unqF a0.size a0 [] with
    | none => rw [hu] at h; simp only [Option.some.injEq, Prod.mk.injEq] at h; obtain ⟨rfl, rfl⟩ := h; rfl
    | some l => rw [hu] at h; simp only [Option.some.injEq, Prod.mk.injEq] at h; obtain ⟨rfl, rfl⟩ := h; rfl
  · cases h
end Go.Proofs.Ytggeahplncijbaa.HScanTexts
