/- The closures of expr.Eval and of expr.plain: the plain functions they compute; no conditions. -/
import Derived.Test.YtfnikmkjhbbbgaaDoorCheck
import Derived.Test.YtfnikmkjhbbbgaaDoorShelf
set_option linter.unusedVariables false
set_option linter.unusedSimpArgs false
namespace Go.Proofs.YtfnikmkjhbbbgaaDoor.HExpr
open Go.RowKit Go.Proofs.YtfnikmkjhbbbgaaDoorW.PrintWords Go.Proofs.YtfnikmkjhbbbgaaDoorW.PrintLast Go.Proofs.YtfnikmkjhbbbgaaDoorW.PrintMore
theorem has_calls (A0 : Option Addr) (c0 : Nat) (l0 : List ByteArray) (x : ByteArray) (w : World) (hr0 : Kd.C Kd.string w A0 l0.length l0) (hc0 : l0.length ≤ c0) :
    Calls Tryd.prog 36 #[.slice A0 l0.length c0, .string x] w fun e w' => e = .returned (.bool (Lib.containsS l0 x)) ∧ w' = w := by
  by_cases h0 : l0.length = 0
  · have hl : l0 = [] := List.length_eq_zero_iff.1 h0
    subst hl
    exact Tryd.slices_Contains_string_empty A0 c0 x w
  · obtain ⟨ad, rfl, hc⟩ := hr0.2.2 (by omega)
    have hcell : ∀ j, j < l0.length → w.cell? (ad.add j) = some (.string (l0.getD j ByteArray.empty)) := by
      intro j hj
      obtain ⟨c, _, hR, hu⟩ := hc j l0[j] (List.getElem?_eq_getElem hj)
      obtain rfl : c = [.string l0[j]] := hR
      have := hu 0 _ rfl
      have e : Kd.string.sz = 1 := rfl
      rw [e, Nat.mul_one, Nat.add_zero] at this
      rw [this]
      simp [List.getD, hj]
    obtain ⟨b, off, sp⟩ := ad
    have hsp : sp = none := by
      have := hcell 0 (by omega)
      cases sp with
      | none => rfl
      | some s => simp only [World.cell?, Addr.add] at this; split at this <;> simp at this
    subst hsp
    refine (Tryd.slices_Contains_string b off l0.length c0 l0 x w (Nat.le_refl _) hr0.2.1 (fun j hj => by have h1 := hcell j hj; rw [show (⟨b, off, none⟩ : Addr).add j = ⟨b, off + j, none⟩ by unfold Addr.add; split <;> simp_all] at h1; exact h1)).mono ?_
    rintro e w' ⟨rfl, rfl⟩
    rw [List.take_of_length_le (Nat.le_refl _)]
    exact ⟨rfl, rfl⟩
theorem tagged_calls (g : Nat) (A0 : Option Addr) (c0 : Nat) (l0 : List ByteArray) (x : ByteArray) (w : World) (hg : w.heap[g]? = some (.cells #[.slice A0 l0.length c0] 23 (0, 0))) (hr0 : Kd.C Kd.string w A0 l0.length l0) (hc0 : l0.length ≤ c0) :
    Calls Tryd.prog 35 #[.string x, .pointer (some ⟨g, 0, none⟩)] w fun e w' => e = .returned (.bool (Lib.containsS l0 x)) ∧ w' = w := by
  have hcz : w.cell? ⟨g, 0, none⟩ = some (.slice A0 l0.length c0) := (blk_cell hg 0).trans rfl
  have HR := Aside0.mk hr0
  clear hr0
  go_enter Tryd.func35, Tryd.ntmps35
  go_wp2_with (go_at_call 36; refine (has_calls _ _ l0 x _ HR.out hc0).mono ?_; rintro e w' ⟨rfl, rfl⟩)
  go_ret
  exact ⟨rfl, rfl⟩
theorem not_calls (a b : Bool) (w : World) : Calls Tryd.prog 51 #[.bool a, .bool b] w fun e w' => e = .returned (.bool (!a)) ∧ w' = w := by
  go_enter Tryd.func51, Tryd.ntmps51
  go_wp2
  go_ret
  exact ⟨rfl, rfl⟩
theorem and_calls (a b : Bool) (w : World) : Calls Tryd.prog 52 #[.bool a, .bool b] w fun e w' => e = .returned (.bool (a && b)) ∧ w' = w := by
  cases a
  · go_enter Tryd.func52, Tryd.ntmps52
    go_wp2
    go_ret
    exact ⟨rfl, rfl⟩
  · go_enter Tryd.func52, Tryd.ntmps52
    go_wp2
    go_ret
    exact ⟨rfl, rfl⟩
theorem or_calls (a b : Bool) (w : World) : Calls Tryd.prog 53 #[.bool a, .bool b] w fun e w' => e = .returned (.bool (a || b)) ∧ w' = w := by
  cases a
  · go_enter Tryd.func53, Tryd.ntmps53
    go_wp2
    go_ret
    exact ⟨rfl, rfl⟩
  · go_enter Tryd.func53, Tryd.ntmps53
    go_wp2
    go_ret
    exact ⟨rfl, rfl⟩
end Go.Proofs.YtfnikmkjhbbbgaaDoor.HExpr
