/- What graftbedlaw08.heavy and shown answer: heavy always answers, and false only of few and short things; shown answers true. -/
import Derived.Test.YtggeahplncijbaaHRewriteExactx2
import Derived.Test.YtggeahplncijbaaHRewriteExactx3
set_option linter.unusedVariables false
set_option linter.unusedSimpArgs false
namespace Go.Proofs.Ytggeahplncijbaa.HRewriteExact
open Go.RowKit Go.Proofs.YtggeahplncijbaaW.PrintWords Go.Proofs.YtggeahplncijbaaW.PrintLast Go.Proofs.YtggeahplncijbaaW.PrintMore

theorem wrap_next {i : Nat} {n : Nat} (h : i < n) (hn : n ≤ 9223372036854775807) : wrap64 ((i : Int) + 1) = ((i + 1 : Nat) : Int) := by
  unfold wrap64
  omega
section
variable (a b : ByteArray) (l2 : List S142) (l3 : List S33) (l4 : List S29) (l5 : List S62)
theorem heavy_l3 (hn : l5.length ≤ 9223372036854775807) : ∀ (d i : Nat) (x : Int), i + d = l5.length → ∃ r, Ev (fun k => graftbedlaw08_heavy.l3 k x (i : Int) a b l2 l3 l4 l5) r
  | 0, i, x, hid => ⟨_, Ev.step (f := fun _ => some (decide (x > 8192))) (fun k => by simp only [graftbedlaw08_heavy.l3]; rw [if_neg (by omega)]) (Ev.now _)⟩
  | d + 1, i, x, hid => by
    by_cases hx : x ≤ 8192
    · obtain ⟨r, hr⟩ := heavy_l3 hn d (i + 1) (wrap64 (x + ((mn (((rd_T62 l5 i).f0).size : Int) 1048576) + (mn (((rd_T62 l5 i).f1).size : Int) 1048576)))) (by omega)
      refine ⟨r, Ev.step (fun k => ?_) hr⟩
      simp only [graftbedlaw08_heavy.l3]
      rw [if_pos (by omega), if_pos hx, if_pos (by omega), wrap_next (show i < l5.length by omega) hn]
    · exact ⟨_, Ev.step (f := fun _ => some (decide (x > 8192))) (fun k => by simp only [graftbedlaw08_heavy.l3]; rw [if_pos (by omega), if_neg hx]) (Ev.now _)⟩
theorem heavy_j6 (hn : l5.length ≤ 9223372036854775807) (x : Int) : ∃ r, Ev (fun k => graftbedlaw08_heavy.j6 k x a b l2 l3 l4 l5) r := by
  obtain ⟨r, hr⟩ := heavy_l3 a b l2 l3 l4 l5 hn l5.length 0 x (by omega)
  exact ⟨r, Ev.step (fun k => rfl) hr⟩
theorem heavy_l2 (hn : l5.length ≤ 9223372036854775807) (hn3 : l3.length ≤ 9223372036854775807) : ∀ (d i : Nat) (x : Int), i + d = l3.length → ∃ r, Ev (fun k => graftbedlaw08_heavy.l2 k x (i : Int) a b l2 l3 l4 l5) r
  | 0, i, x, hid => by
    obtain ⟨r, hr⟩ := heavy_j6 a b l2 l3 l4 l5 hn x
    exact ⟨r, Ev.step (fun k => by simp only [graftbedlaw08_heavy.l2]; rw [if_neg (by omega)]) hr⟩
  | d + 1, i, x, hid => by
    by_cases hx : x ≤ 8192
    · obtain ⟨r, hr⟩ := heavy_l2 hn hn3 d (i + 1) (wrap64 (x + ((((mn (((rd_T33 l3 i).f0.f0).size : Int) 1048576) + (mn (((rd_T33 l3 i).f0.f1).size : Int) 1048576)) + (mn (((rd_T33 l3 i).f1.f0).size : Int) 1048576)) + (mn (((rd_T33 l3 i).f1.f1).size : Int) 1048576)))) (by omega)
      refine ⟨r, Ev.step (fun k => ?_) hr⟩
      simp only [graftbedlaw08_heavy.l2]
      rw [if_pos (by omega), if_pos hx, if_pos (by omega), wrap_next (show i < l3.length by omega) hn3]
    · obtain ⟨r, hr⟩ := heavy_j6 a b l2 l3 l4 l5 hn x
      exact ⟨r, Ev.step (fun k => by simp only [graftbedlaw08_heavy.l2]; rw [if_pos (by omega), if_neg hx]) hr⟩
theorem heavy_j4 (hn : l5.length ≤ 9223372036854775807) (hn3 : l3.length ≤ 9223372036854775807) (x : Int) : ∃ r, Ev (fun k => graftbedlaw08_heavy.j4 k x a b l2 l3 l4 l5) r := by
  obtain ⟨r, hr⟩ := heavy_l2 a b l2 l3 l4 l5 hn hn3 l3.length 0 x (by omega)
  exact ⟨r, Ev.step (fun k => rfl) hr⟩
theorem heavy_l1 (hn : l5.length ≤ 9223372036854775807) (hn3 : l3.length ≤ 9223372036854775807) (hn4 : l4.length ≤ 9223372036854775807) : ∀ (d i : Nat) (x : Int), i + d = l4.length → ∃ r, Ev (fun k => graftbedlaw08_heavy.l1 k x (i : Int) a b l2 l3 l4 l5) r
  | 0, i, x, hid => by
    obtain ⟨r, hr⟩ := heavy_j4 a b l2 l3 l4 l5 hn hn3 x
    exact ⟨r, Ev.step (fun k => by simp only [graftbedlaw08_heavy.l1]; rw [if_neg (by omega)]) hr⟩
  | d + 1, i, x, hid => by
    by_cases hx : x ≤ 8192
    · obtain ⟨r, hr⟩ := heavy_l1 hn hn3 hn4 d (i + 1) (wrap64 (x + ((mn (((rd_T29 l4 i).f0).size : Int) 1048576) + (mn (((rd_T29 l4 i).f1).size : Int) 1048576)))) (by omega)
      refine ⟨r, Ev.step (fun k => ?_) hr⟩
      simp only [graftbedlaw08_heavy.l1]
      rw [if_pos (by omega), if_pos hx, if_pos (by omega), wrap_next (show i < l4.length by omega) hn4]
    · obtain ⟨r, hr⟩ := heavy_j4 a b l2 l3 l4 l5 hn hn3 x
      exact ⟨r, Ev.step (fun k => by simp only [graftbedlaw08_heavy.l1]; rw [if_pos (by omega), if_neg hx]) hr⟩
theorem heavy_j2 (hn : l5.length ≤ 9223372036854775807) (hn3 : l3.length ≤ 9223372036854775807) (hn4 : l4.length ≤ 9223372036854775807) (x : Int) : ∃ r, Ev (fun k => graftbedlaw08_heavy.j2 k x a b l2 l3 l4 l5) r := by
  obtain ⟨r, hr⟩ := heavy_l1 a b l2 l3 l4 l5 hn hn3 hn4 l4.length 0 x (by omega)
  exact ⟨r, Ev.step (fun k => rfl) hr⟩
theorem heavy_some (hn : l5.length ≤ 9223372036854775807) (hn3 : l3.length ≤ 9223372036854775807) (hn4 : l4.length ≤ 9223372036854775807) (m0 m1 : ByteArray) (hm0 : m0.size ≤ 9223372036854775807) (hm1 : m1.size ≤ 9223372036854775807) :
    ∃ r k, graftbedlaw08_heavy.f k a b l2 l3 l4 l5 [] m0 m1 = some r ∧ (r = false → l3.length ≤ 30 ∧ (wrap64 ((m0.size : Int) + m1.size) ≤ 400)) := by
  have ht : ∀ k, graftbedlaw08_heavy.j0 (k + 1) [] true a b l2 l3 l4 l5 = some true := fun k => by simp only [graftbedlaw08_heavy.j0, if_true]
  unfold graftbedlaw08_heavy.f
  simp only [show ¬ ((([] : List S60).length : Nat) : Int) > 50 by simp, if_false]
  by_cases h2 : (l2.length : Int) > 30
  · exact ⟨true, 1, by rw [if_pos h2]; exact ht 0, fun h => by cases h⟩
  by_cases h3 : (l3.length : Int) > 30
  · exact ⟨true, 1, by rw [if_neg h2, if_pos h3]; exact ht 0, fun h => by cases h⟩
  by_cases h4 : (l4.length : Int) > 30
  · exact ⟨true, 1, by rw [if_neg h2, if_neg h3, if_pos h4]; exact ht 0, fun h => by cases h⟩
  by_cases h5 : (l5.length : Int) > 30
  · exact ⟨true, 1, by rw [if_neg h2, if_neg h3, if_neg h4, if_pos h5]; exact ht 0, fun h => by cases h⟩
  by_cases hm : (wrap64 ((m0.size : Int) + m1.size)) > 400
  · exact ⟨true, 1, by rw [if_neg h2, if_neg h3, if_neg h4, if_neg h5, decide_eq_true hm]; exact ht 0, fun h => by cases h⟩
  · have hl0 : ∃ r, Ev (fun k => graftbedlaw08_heavy.l0 k [] 0 0 a b l2 l3 l4 l5) r := by
      obtain ⟨r, hr⟩ := heavy_j2 a b l2 l3 l4 l5 hn hn3 hn4 0
      exact ⟨r, Ev.step (fun k => by simp only [graftbedlaw08_heavy.l0]; rw [if_neg (by simp)]) hr⟩
    obtain ⟨r, hr⟩ := hl0
    have hj : Ev (fun k => graftbedlaw08_heavy.j0 k [] false a b l2 l3 l4 l5) r := Ev.step (fun k => by simp only [graftbedlaw08_heavy.j0, Bool.false_eq_true, if_false]) hr
    obtain ⟨k, hk⟩ := hj.rounds
    exact ⟨r, k, by rw [if_neg h2, if_neg h3, if_neg h4, if_neg h5, decide_eq_false hm]; exact hk, fun _ => ⟨by omega, by omega⟩⟩
end
theorem shown_true : graftbedlaw08_shown.f = some true := by decide +kernel
end Go.Proofs.Ytggeahplncijbaa.HRewriteExact
