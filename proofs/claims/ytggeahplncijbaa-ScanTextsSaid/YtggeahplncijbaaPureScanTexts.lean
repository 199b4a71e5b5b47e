/- graftbedlaw10.ScanTexts answers true for every text and every place; no conditions beyond the row's own. -/
import Derived.Test.YtggeahplncijbaaHScanTextsx1
set_option linter.unusedVariables false
set_option linter.unusedSimpArgs false
namespace Go.Proofs.Ytggeahplncijbaa.Pure
open Go.RowKit Go.Proofs.Ytggeahplncijbaa.HScanTexts Go.Proofs.YtggeahplncijbaaW.PrintWords Go.Proofs.YtggeahplncijbaaW.PrintLast Go.Proofs.YtggeahplncijbaaW.PrintMore

theorem bt_at_drop (s : ByteArray) (p i : Nat) (hi : i < p) (hp : p ≤ s.size) : ∃ c, bt s (i : Int) = (c.toNat : Int) ∧ (s.data.toList.take p).drop i = c :: (s.data.toList.take p).drop (i + 1) := by
  have hl : i < (s.data.toList.take p).length := by simp; omega
  refine ⟨(s.data.toList.take p)[i], ?_, List.drop_eq_getElem_cons hl⟩
  unfold bt
  rw [dif_pos (show ((i : Nat) : Int).toNat < s.size by simp; omega)]
  simp
  rfl
theorem line_loop (s : ByteArray) (a : Int) (p : Nat) (hp : p ≤ s.size) (hs : s.size ≤ 1024) (hpa : ∀ i : Nat, (i < p ↔ (i : Int) < a ∧ i < s.size)) : ∀ (d i n : Nat), i + d = p → n ≤ i + 1 →
    Ev (fun k => graftbedref10_Line.l0 k s a (n : Int) (i : Int)) ((n + List.count 10 ((s.data.toList.take p).drop i) : Nat) : Int)
  | 0, i, n, hid, hn => by
    obtain rfl : i = p := by omega
    rw [List.drop_eq_nil_of_le (by simp; omega)]
    have h := hpa i
    refine Ev.step (f := fun k => graftbedref10_Line.j1 k s a n i false) (fun k => ?_) (Ev.step (f := fun _ => some (n : Int)) (fun k => ?_) (Ev.now _))
    · simp only [graftbedref10_Line.l0]
      by_cases h1 : (i : Int) < a
      · rw [if_pos h1, decide_eq_false (by omega)]
      · rw [if_neg h1]
    · simp only [graftbedref10_Line.j1, Bool.false_eq_true, if_false]
  | d + 1, i, n, hid, hn => by
    obtain ⟨c, hc, hdrop⟩ := bt_at_drop s p i (by omega) hp
    have h := (hpa i).1 (by omega)
    have e1 : wrap64 ((n : Int) + 1) = ((n + 1 : Nat) : Int) := by unfold wrap64; omega
    have e2 : wrap64 ((i : Int) + 1) = ((i + 1 : Nat) : Int) := by unfold wrap64; omega
    rw [hdrop]
    by_cases h10 : (c.toNat : Int) = 10
    · have hc10 : c = 10 := by apply UInt8.toNat_inj.1; show c.toNat = 10; omega
      rw [show (n + List.count 10 (c :: (s.data.toList.take p).drop (i + 1))) = (n + 1) + List.count 10 ((s.data.toList.take p).drop (i + 1)) by rw [hc10, List.count_cons_self]; omega]
      refine Ev.step (f := fun k => graftbedref10_Line.j1 k s a n i true) (fun k => ?_) (Ev.step (fun k => ?_) (line_loop s a p hp hs hpa d (i + 1) (n + 1) (by omega) (by omega)))
      · simp only [graftbedref10_Line.l0]
        rw [if_pos h.1, decide_eq_true (by omega)]
      · simp only [graftbedref10_Line.j1, if_true]
        rw [if_pos (by omega), if_pos (by omega), if_pos (by omega), e1, e2]
    · have hc10 : c ≠ 10 := fun e => h10 (by rw [e]; rfl)
      rw [List.count_cons_of_ne hc10]
      refine Ev.step (f := fun k => graftbedref10_Line.j1 k s a n i true) (fun k => ?_) (Ev.step (fun k => ?_) (line_loop s a p hp hs hpa d (i + 1) n (by omega) (by omega)))
      · simp only [graftbedref10_Line.l0]
        rw [if_pos h.1, decide_eq_true (by omega)]
      · simp only [graftbedref10_Line.j1, if_true]
        rw [if_pos (by omega), if_pos (by omega), if_neg (by omega), e2]
theorem line_ev (s : ByteArray) (a : Int) (hs : s.size ≤ 1024) : ∃ v, scan_Line.f s a = some v ∧ Ev (fun k => graftbedref10_Line.f k s a) v := by
  refine ⟨_, rfl, ?_⟩
  have hm0 : 0 ≤ mx 0 (mn a s.size) := by unfold mx; split <;> omega
  have hm1 : mx 0 (mn a s.size) ≤ s.size := by unfold mx mn; split <;> split <;> omega
  obtain ⟨p, hp⟩ := Int.eq_ofNat_of_zero_le hm0
  rw [hp]
  have hpa : ∀ i : Nat, (i < p ↔ (i : Int) < a ∧ i < s.size) := fun i => by
    have : (p : Int) = mx 0 (mn a s.size) := hp.symm
    unfold mx mn at this
    split at this <;> split at this <;> omega
  have h := line_loop s a p (by omega) hs hpa p 0 1 (by omega) (by omega)
  have hc : List.count 10 (s.data.toList.take p) ≤ 1024 := by
    refine Nat.le_trans List.count_le_length ?_
    rw [List.length_take]
    simp
    omega
  rw [List.drop_zero] at h
  have e : wrap64 (lineAt s (p : Int)) = ((1 + List.count 10 (s.data.toList.take p) : Nat) : Int) := by
    unfold lineAt Lib.countByte
    rw [Int.toNat_natCast]
    unfold wrap64
    omega
  rw [e]
  exact h
theorem unq_x : scan_Unquote.f (⟨#[120]⟩ : ByteArray) = some (⟨#[120]⟩, true) := by decide +kernel
theorem unq_some (s : ByteArray) (hs : s.size ≤ 1024) : ∃ t b, scan_Unquote.f s = some (t, b) := by
  unfold scan_Unquote.f
  rw [if_pos (by omega)]
  cases unqF s.size s [] with
  | none => exact ⟨_, _, rfl⟩
  | some l => exact ⟨_, _, rfl⟩

theorem ScanTexts : graftbedlaw10_ScanTexts.Pure := by
  intro s a _ _
  by_cases hs : (s.size : Int) > 1024
  · exact ⟨0, by unfold graftbedlaw10_ScanTexts.f; rw [if_pos hs]⟩
  · obtain ⟨t, b, hu⟩ := unq_some s (by omega)
    have hr : graftbedref10_Unquote.f s = some (t, b) := hu
    obtain ⟨v, hv, hl⟩ := line_ev s a (by omega)
    obtain ⟨k, hk⟩ := hl.rounds
    refine ⟨k, ?_⟩
    unfold graftbedlaw10_ScanTexts.f
    rw [if_neg hs, hu, hr, unq_x, hv, hk]
    simp only [Option.bind_some]
    rw [if_pos trivial, if_pos (by simp), if_pos trivial, if_pos (Lib.toList_data _)]

end Go.Proofs.Ytggeahplncijbaa.Pure
