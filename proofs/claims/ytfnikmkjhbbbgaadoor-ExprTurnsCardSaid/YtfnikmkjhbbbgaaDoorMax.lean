/- slices.Max at a row of whole numbers: the plain function it computes. -/
import Derived.Test.YtfnikmkjhbbbgaaDoorHExprx0
import Derived.Test.YtfnikmkjhbbbgaaDoorShelf
set_option linter.unusedVariables false
set_option linter.unusedSimpArgs false
namespace Go.Proofs.YtfnikmkjhbbbgaaDoor
open Go.RowKit Go.Proofs.YtfnikmkjhbbbgaaDoorW.PrintWords Go.Proofs.YtfnikmkjhbbbgaaDoorW.PrintLast Go.Proofs.YtfnikmkjhbbbgaaDoorW.PrintMore
def slices_Max_int_int.f (l0 : List Int) : Option (Int) := if l0.length = 0 then none else some (Lib.maxOf l0)
theorem slices_Max_int_int.calls (A0 : Option Addr) (c0 : Nat) (l0 : List Int) (r : Int) (w : World) (hr0 : Kd.C (Kd.int .i64) w A0 l0.length l0) (hc0 : l0.length ≤ c0) (h : slices_Max_int_int.f l0 = some r) :
    Calls Tryd.prog 32 #[.slice A0 l0.length c0] w fun e w' => e = .returned (.int .i64 r) ∧ Drawn0 w w' := by
  unfold slices_Max_int_int.f at h
  split at h
  · cases h
  · rename_i h0
    obtain rfl := Option.some.inj h
    obtain ⟨ad, rfl, hc⟩ := hr0.2.2 (by omega)
    have hcell : ∀ j, j < l0.length → w.cell? (ad.add j) = some (.int .i64 (l0.getD j 0)) := by
      intro j hj
      obtain ⟨c, _, hR, hu⟩ := hc j l0[j] (List.getElem?_eq_getElem hj)
      obtain rfl : c = [.int .i64 l0[j]] := hR
      have := hu 0 _ rfl
      have e : (Kd.int IntKind.i64).sz = 1 := rfl
      rw [e, Nat.mul_one, Nat.add_zero] at this
      rw [this]
      simp [List.getD, hj]
    obtain ⟨b, off, sp⟩ := ad
    have hsp : sp = none := by
      have := hcell 0 (by omega)
      cases sp with
      | none => rfl
      | some s => simp only [World.cell?, Addr.add] at this; split at this <;> simp at this
    subst hsp
    refine (Tryd.slices_Max_int b off l0.length c0 l0 w (by omega) (Nat.le_refl _) hr0.2.1 (fun j hj => by have h1 := hcell j hj; rw [show (⟨b, off, none⟩ : Addr).add j = ⟨b, off + j, none⟩ by unfold Addr.add; split <;> simp_all] at h1; exact h1)).mono ?_
    rintro e w' ⟨rfl, rfl⟩
    rw [List.take_of_length_le (Nat.le_refl _)]
    exact ⟨rfl, Drawn0.refl _⟩
end Go.Proofs.YtfnikmkjhbbbgaaDoor
