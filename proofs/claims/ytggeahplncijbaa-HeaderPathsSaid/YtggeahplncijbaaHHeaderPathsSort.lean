/- slices.Sort and slices.Compact at a row of the call's own: the row that they leave. -/
import Derived.Test.YtggeahplncijbaaHHeaderPathsx0
import Derived.Test.YtggeahplncijbaaShelfSort
import Derived.Lib.OwnBridge
set_option linter.unusedVariables false
set_option linter.unusedSimpArgs false
namespace Go.Proofs.Ytggeahplncijbaa.HHeaderPaths
open Go.RowKit Go.Proofs.YtggeahplncijbaaW.PrintWords Go.Proofs.YtggeahplncijbaaW.PrintLast Go.Proofs.YtggeahplncijbaaW.PrintMore
def ofL (l : List UInt8) : ByteArray := ⟨l.toArray⟩
def sortL (xs : List ByteArray) : List (List UInt8) := (xs.map (·.data.toList)).mergeSort fun x y => decide (x ≤ y)
def sortC (xs : List ByteArray) : List ByteArray := (sortL xs).map ofL
def compL (xs : List ByteArray) : List (List UInt8) := Lib.compact (xs.map (·.data.toList))
def compC (xs : List ByteArray) : List ByteArray := (compL xs).map ofL
theorem encs_ofL (l : List (List UInt8)) : l.map Proofs.encStr = encs Value.string (l.map ofL) := by
  unfold encs
  rw [List.map_map]
  apply List.map_congr_left
  intro x _
  simp [Proofs.encStr, ofL]
theorem sortL_length (xs : List ByteArray) : (sortL xs).length = xs.length := by simp [sortL]
theorem compL_length (xs : List ByteArray) : (compL xs).length ≤ xs.length := by
  have := Lib.compact_length_le (xs.map (·.data.toList))
  simpa [compL] using this
theorem sort_own (w : World) (base : Nat) (hbase : base ≤ w.heap.size) (A : Option Addr) (c : Nat) (xs : List ByteArray) (h : Kd.R Kd.string 9 w base (fun _ => True) (.slice A xs.length c) xs) (hl : xs.length < 4611686018427387904) :
    Calls Try.prog 28 #[.slice A xs.length c] w fun e w' => e = .returned (.tuple #[]) ∧ Kd.R Kd.string 9 w' base (fun _ => True) (.slice A xs.length c) (sortC xs) ∧ Below base w w' := by
  have ho := Kd.own_of_R h
  by_cases hv : (Value.slice A xs.length c) = Value.slice none 0 0
  · injection hv with e1 e2 e3
    subst e1 e3
    obtain rfl : xs = [] := List.eq_nil_of_length_eq_zero e2
    refine (Try.slices_Sort_string_none none 0 w).mono ?_
    rintro e w' ⟨rfl, rfl⟩
    exact ⟨rfl, by simpa [sortC, sortL] using h, Below.refl _ _⟩
  · obtain ⟨g, cap, e0, hb, hlt, hn, hm, hl2, hH⟩ := Lib.holds_of_ownsRow (zs := xs.map (·.data.toList)) (by rw [Lib.map_encStr]; exact ho) hv
    injection e0 with e1 _ e3
    subst e1 e3
    have hc := Try.slices_Sort_string g 0 c (xs.map (·.data.toList)) w hH hlt (by simpa using hl)
    rw [List.length_map] at hc
    refine hc.mono ?_
    rintro e w' ⟨rfl, n, os, rfl⟩
    have ho2 := Lib.ownsRow_putRow (q := n) (zs := xs.map (·.data.toList)) (ys := sortL xs) (k := xs.length) (by rw [Lib.map_encStr]; exact ho) (sortL_length xs) (Nat.le_refl _)
    rw [List.take_of_length_le (by rw [sortL_length]; exact Nat.le_refl _), encs_ofL] at ho2
    have hbr : Below base w (Sort.putRow Proofs.encStr (Sort.ahead w n) g 0 (sortL xs).toArray) := Lib.below_putRow (Below.refl _ _) hb
    have hsl : (sortC xs).length = xs.length := by simp [sortC, sortL_length]
    have hR : Kd.R Kd.string 9 (Sort.putRow Proofs.encStr (Sort.ahead w n) g 0 (sortL xs).toArray) base (fun _ => True) (.slice (some ⟨g, 0, none⟩) xs.length c) (sortC xs) :=
      Kd.R_of_own (h1 := fun _ => rfl) (by rw [hsl]; exact ho2) (fun _ _ => trivial)
    have hgr : ∀ (W : World) (B : Nat), B ≤ W.heap.size → Below B W (Sort.grow W os) := fun W B hB =>
      ⟨rfl, rfl, rfl, by simp [Sort.grow], fun k hk => by simp only [Sort.grow]; rw [Array.getElem?_append_left (by omega)]⟩
    refine ⟨rfl, Kd.R_below hR (hgr _ _ (Nat.le_refl _)), hbr.trans (hgr _ _ ?_)⟩
    exact Nat.le_trans hbase hbr.size
theorem comp_own (w : World) (base : Nat) (A : Option Addr) (c : Nat) (xs : List ByteArray) (h : Kd.R Kd.string 9 w base (fun _ => True) (.slice A xs.length c) xs) (hl : xs.length < 4611686018427387904) :
    Calls Try.prog 29 #[.slice A xs.length c] w fun e w' => ∃ v, e = .returned v ∧ Kd.R Kd.string 9 w' base (fun _ => True) v (compC xs) ∧ Below base w w' := by
  have ho := Kd.own_of_R h
  by_cases hv : (Value.slice A xs.length c) = Value.slice none 0 0
  · injection hv with e1 e2 e3
    subst e1 e3
    obtain rfl : xs = [] := List.eq_nil_of_length_eq_zero e2
    refine (Try.slices_Compact_string_empty none 0 w).mono ?_
    rintro e w' ⟨rfl, rfl⟩
    exact ⟨_, rfl, by simpa [compC, compL, Lib.compact, Lib.compactUpTo] using h, Below.refl _ _⟩
  · obtain ⟨g, cap, e0, hb, hlt, hn, hm, hl2, hH⟩ := Lib.holds_of_ownsRow (zs := xs.map (·.data.toList)) (by rw [Lib.map_encStr]; exact ho) hv
    injection e0 with e1 _ e3
    subst e1 e3
    have hc := Try.slices_Compact_string g 0 c (xs.map (·.data.toList)) w hH (by simp; omega) (by simpa using hn)
    rw [List.length_map] at hc
    refine hc.mono ?_
    rintro e w' ⟨rfl, q, rfl⟩
    have hcl : (compL xs).length ≤ xs.length := compL_length xs
    have ho2 := Lib.ownsRow_putRow (q := q) (zs := xs.map (·.data.toList)) (ys := compL xs ++ List.replicate (xs.length - (compL xs).length) []) (k := (compL xs).length) (by rw [Lib.map_encStr]; exact ho) (by simp; omega) hcl
    rw [List.take_left, encs_ofL] at ho2
    have hsl : (compC xs).length = (compL xs).length := by simp [compC]
    refine ⟨_, rfl, Kd.R_of_own (h1 := fun _ => rfl) ?_ (fun _ _ => trivial), Lib.below_putRow (Below.refl _ _) hb⟩
    rw [hsl]
    exact ho2
end Go.Proofs.Ytggeahplncijbaa.HHeaderPaths
