/- The contract of theirs: the header in the other words; its third slice is handed through as it came. -/
import Derived.Test.YtggeahplncijbaaHHeaderPathsx0
set_option linter.unusedVariables false
set_option linter.unusedSimpArgs false
namespace Go.Proofs.Ytggeahplncijbaa.HHeaderPaths
open Go.RowKit Go.Proofs.YtggeahplncijbaaW.PrintWords Go.Proofs.YtggeahplncijbaaW.PrintLast Go.Proofs.YtggeahplncijbaaW.PrintMore
attribute [local go_sem] max2_int min2_int max_two min_two max_three min_three max_four min_four

/-! ### graftbedlaw11_theirs: function 16 -/
mutual
def graftbedlaw11_theirs.l0 : Nat → Int → ByteArray → List (S47) → ByteArray → List ByteArray → List (S88) → ByteArray → List (S85) → ByteArray → List ByteArray → Option (ByteArray × (List (S85)) × ByteArray × List ByteArray × (List (S87)))
  | 0, _, _, _, _, _, _, _, _, _, _ => none
  | k + 1, x4, x132000, x132001, x132002, x132003, x132004, x134000, x134001, x134002, x134003 => if x4 < (x132001.length : Int) then (if 0 ≤ x4 then (if x134001.length < 3518437208883 then (graftbedlaw11_theirs.l0 k (wrap64 (x4 + 1)) x132000 x132001 x132002 x132003 x132004 x134000 (x134001 ++ [(⟨(rd_T47 x132001 x4).f0, (rd_T47 x132001 x4).f1, (rd_T47 x132001 x4).f2⟩ : S85)]) x134002 x134003) else (none)) else (none)) else (graftbedlaw11_theirs.l1 k 0 x132000 x132001 x132002 x132003 x132004 x134000 x134001 x134002 x134003 ([] : List (S87)))
def graftbedlaw11_theirs.l1 : Nat → Int → ByteArray → List (S47) → ByteArray → List ByteArray → List (S88) → ByteArray → List (S85) → ByteArray → List ByteArray → List (S87) → Option (ByteArray × (List (S85)) × ByteArray × List ByteArray × (List (S87)))
  | 0, _, _, _, _, _, _, _, _, _, _, _ => none
  | k + 1, x5, x132000, x132001, x132002, x132003, x132004, x134000, x134001, x134002, x134003, x134004 => if x5 < (x132004.length : Int) then (if 0 ≤ x5 then (if x134004.length < 5864062014805 then (graftbedlaw11_theirs.l1 k (wrap64 (x5 + 1)) x132000 x132001 x132002 x132003 x132004 x134000 x134001 x134002 x134003 (x134004 ++ [(⟨(rd_T88 x132004 x5).f0, (rd_T88 x132004 x5).f1⟩ : S87)])) else (none)) else (none)) else (some (x134000, x134001, x134002, x134003, x134004))
end
def graftbedlaw11_theirs.f (k : Nat) (a0_0 : ByteArray) (l0_1 : List (S47)) (a0_2 : ByteArray) (l0_3 : List ByteArray) (l0_4 : List (S88)) : Option (ByteArray × (List (S85)) × ByteArray × List ByteArray × (List (S87))) := graftbedlaw11_theirs.l0 k 0 a0_0 l0_1 a0_2 l0_3 l0_4 a0_0 ([] : List (S85)) a0_2 l0_3
theorem graftbedlaw11_theirs.mono_l : ∀ k, (∀ y0 y1 y2 y3 y4 y5 y6 y7 y8 y9, LeO (graftbedlaw11_theirs.l0 k y0 y1 y2 y3 y4 y5 y6 y7 y8 y9) (graftbedlaw11_theirs.l0 (k + 1) y0 y1 y2 y3 y4 y5 y6 y7 y8 y9)) ∧ (∀ y0 y1 y2 y3 y4 y5 y6 y7 y8 y9 y10, LeO (graftbedlaw11_theirs.l1 k y0 y1 y2 y3 y4 y5 y6 y7 y8 y9 y10) (graftbedlaw11_theirs.l1 (k + 1) y0 y1 y2 y3 y4 y5 y6 y7 y8 y9 y10))
  | 0 => ⟨fun _ _ _ _ _ _ _ _ _ _ r h => by simp [graftbedlaw11_theirs.l0] at h, fun _ _ _ _ _ _ _ _ _ _ _ r h => by simp [graftbedlaw11_theirs.l1] at h⟩
  | k + 1 => by
    obtain ⟨ih0, ih1⟩ := graftbedlaw11_theirs.mono_l k
    refine ⟨?_, ?_⟩
    · intro y0 y1 y2 y3 y4 y5 y6 y7 y8 y9
      unfold graftbedlaw11_theirs.l0
      repeat' first
      | (with_reducible exact ih0 _ _ _ _ _ _ _ _ _ _)
      | (with_reducible exact ih1 _ _ _ _ _ _ _ _ _ _ _)
      | (with_reducible exact LeO.refl _)
      | (with_reducible exact LeO.none _)
      | (with_reducible refine LeO.ite ?_ ?_)
      | (with_reducible refine LeO.bind ?_ (fun _ => ?_))
      | exact ih0 _ _ _ _ _ _ _ _ _ _
      | exact ih1 _ _ _ _ _ _ _ _ _ _ _
      | exact LeO.none _
      | refine LeO.ite ?_ ?_
      | refine LeO.bind ?_ (fun _ => ?_)
    · intro y0 y1 y2 y3 y4 y5 y6 y7 y8 y9 y10
      unfold graftbedlaw11_theirs.l1
      repeat' first
      | (with_reducible exact ih0 _ _ _ _ _ _ _ _ _ _)
      | (with_reducible exact ih1 _ _ _ _ _ _ _ _ _ _ _)
      | (with_reducible exact LeO.refl _)
      | (with_reducible exact LeO.none _)
      | (with_reducible refine LeO.ite ?_ ?_)
      | (with_reducible refine LeO.bind ?_ (fun _ => ?_))
      | exact ih0 _ _ _ _ _ _ _ _ _ _
      | exact ih1 _ _ _ _ _ _ _ _ _ _ _
      | exact LeO.none _
      | refine LeO.ite ?_ ?_
      | refine LeO.bind ?_ (fun _ => ?_)
theorem graftbedlaw11_theirs.mono : ∀ a0 a1 a2 a3 a4 k, LeO (graftbedlaw11_theirs.f k a0 a1 a2 a3 a4) (graftbedlaw11_theirs.f (k + 1) a0 a1 a2 a3 a4) := by
  intro a0 a1 a2 a3 a4 k
  obtain ⟨ih0, ih1⟩ := graftbedlaw11_theirs.mono_l k
  unfold graftbedlaw11_theirs.f
  repeat' first
      | (with_reducible exact ih0 _ _ _ _ _ _ _ _ _ _)
      | (with_reducible exact ih1 _ _ _ _ _ _ _ _ _ _ _)
      | (with_reducible exact LeO.refl _)
      | (with_reducible exact LeO.none _)
      | (with_reducible refine LeO.ite ?_ ?_)
      | (with_reducible refine LeO.bind ?_ (fun _ => ?_))
      | exact ih0 _ _ _ _ _ _ _ _ _ _
      | exact ih1 _ _ _ _ _ _ _ _ _ _ _
      | exact LeO.none _
      | refine LeO.ite ?_ ?_
      | refine LeO.bind ?_ (fun _ => ?_)
def graftbedlaw11_theirs.T5 : Bool × List (List Nat × List Nat) := (true, [([], []), ([0], [0]), ([], []), ([2], [2]), ([], []), ([3, 4], [3, 4]), ([5], [5]), ([6], [6]), ([1, 7], [1, 7]), ([0, 1, 2, 3, 4, 5, 6, 7, 8], []), ([9, 8, 8, 0, 1, 2, 3, 4, 5, 6, 7, 8], [8, 9])])
def graftbedlaw11_theirs.B5 : List Nat := [0, 1, 0, 4, 0, 28, 60, 124, 255, 511, 1023]
theorem graftbedlaw11_theirs.tab5 : rtab .any (opsOf Try.f16 5) = graftbedlaw11_theirs.T5 := by kernel_rfl
theorem graftbedlaw11_theirs.bits5 : waitsOk graftbedlaw11_theirs.T5.2 graftbedlaw11_theirs.B5 = true := by kernel_rfl
def graftbedlaw11_theirs.T9 : Bool × List (List Nat × List Nat) := (true, [([], []), ([0], [0]), ([], []), ([2], [2]), ([], []), ([3, 4], [3, 4]), ([5], [5]), ([6], [6]), ([1, 7], [1, 7]), ([0, 1, 2, 3, 4, 5, 6, 7, 8], []), ([9, 8, 8, 0, 1, 2, 3, 4, 5, 6, 7, 8], [8, 9])])
def graftbedlaw11_theirs.B9 : List Nat := [0, 1, 0, 4, 0, 28, 60, 124, 255, 511, 1023]
theorem graftbedlaw11_theirs.tab9 : rtab .any (opsOf Try.f16 9) = graftbedlaw11_theirs.T9 := by kernel_rfl
theorem graftbedlaw11_theirs.bits9 : waitsOk graftbedlaw11_theirs.T9.2 graftbedlaw11_theirs.B9 = true := by kernel_rfl
set_option maxHeartbeats 8000000 in
set_option maxRecDepth 100000 in
theorem graftbedlaw11_theirs.calls (k : Nat) (a0_0 : ByteArray) (A0_1 : Option Addr) (c0_1 : Nat) (l0_1 : List (S47)) (a0_2 : ByteArray) (P0_3_ : Nat → Prop) (Ao2 : Option Addr) (co2 : Nat) (l0_3 : List ByteArray) (A0_4 : Option Addr) (c0_4 : Nat) (l0_4 : List (S88)) (r1 : ByteArray) (r2 : List (S85)) (r3 : ByteArray) (r4 : List ByteArray) (r5 : List (S87)) (w0 w : World) (hB : Below w0.heap.size w0 w) (hr0_1 : ∀ W_, Kept w W_ (fun k_ => P0_3_ k_) → Kd.C k47 W_ A0_1 l0_1.length l0_1) (hc0_1 : l0_1.length ≤ c0_1) (hr0_4 : ∀ W_, Kept w W_ (fun k_ => P0_3_ k_) → Kd.C k88 W_ A0_4 l0_4.length l0_4) (hc0_4 : l0_4.length ≤ c0_4) (h : graftbedlaw11_theirs.f k a0_0 l0_1 a0_2 l0_3 l0_4 = some (r1, r2, r3, r4, r5)) :
    Calls Try.prog 16 #[.agg #[.string a0_0, .slice A0_1 l0_1.length c0_1, .string a0_2, .slice Ao2 l0_3.length co2, .slice A0_4 l0_4.length c0_4]] w fun e w' => ∃ v1_ v4_ : Value, e = .returned (.agg #[.string r1, v1_, .string r3, .slice Ao2 l0_3.length co2, v4_]) ∧ Kd.R k85 85 w' w0.heap.size (fun k_ => (P0_3_ k_ ∨ w.heap.size ≤ k_)) v1_ r2 ∧ Kd.R k87 87 w' w0.heap.size (fun k_ => (P0_3_ k_ ∨ w.heap.size ≤ k_)) v4_ r5 ∧ Below w0.heap.size w0 w' ∧ Kept w w' (fun k_ => P0_3_ k_) := by
  have hu45 := Try.underlying45
  have hu54 := Try.underlying54
  have hu47 := Try.underlying47
  have hu88 := Try.underlying88
  have HR0_1 := Aside0.mk hr0_1
  have HC0_1 := Aside0.mk hc0_1
  clear hr0_1 hc0_1
  have HO0_3 := Aside0.mk True.intro
  have HR0_4 := Aside0.mk hr0_4
  have HC0_4 := Aside0.mk hc0_4
  clear hr0_4 hc0_4
  have HK := Aside0.mk (Kept.refl w (fun k_ => P0_3_ k_))
  have HW0 := Aside0.mk hB.size
  have HB := Aside0.mk hB
  clear hB
  have H : (graftbedlaw11_theirs.l0 k 0 a0_0 l0_1 a0_2 l0_3 l0_4 a0_0 ([] : List (S85)) a0_2 l0_3) = some (r1, r2, r3, r4, r5) := h
  clear h
  have H' := Aside0.mk H
  clear H
  go_enter Try.func16, Try.ntmps16
  go_wp2_with (first | ((with_reducible refine gate_dst (N := 1) rfl ?_); refine box_event ?hg (N := 1) ?hd (cs := #[.string a0_0, .slice A0_1 l0_1.length c0_1, .string a0_2, .slice Ao2 l0_3.length co2, .slice A0_4 l0_4.length c0_4]) (t := 45) ?hr ?_; (case hd => rfl); (case hg => rfl); (case hr => first | (go_simp; done) | (go_simp; rfl)); intro gb131 hg w3 hbox hb; have n0_ := Aside0.mk True.intro; have n1_ := Aside0.mk (Kept.below (S := (fun k_ => P0_3_ k_)) (by repeat (first | (with_reducible first | exact HK.out | apply Kept.alloc | apply Kept.drewN | apply Kept.drew) | exact HK.out)) hb); have n2_ := Aside0.mk (below_step (by repeat (first | (with_reducible first | exact HB.out | apply below_alloc | apply pw_below_drewN | apply below_drew1) | exact HB.out)) hb); have n3_ := Aside0.mk (hbox); have n4_ := Aside0.mk ((by rw [hg]; exact (by first | exact HK.out.1 | exact (show Kept w _ (fun k_ => P0_3_ k_) from by repeat (first | (with_reducible first | exact HK.out | apply Kept.alloc | apply Kept.drewN | apply Kept.drew) | exact HK.out)).1) : w.heap.size ≤ gb131)); have n5_ := Aside0.mk ((by rw [hg]; exact (below_size (by repeat (first | (with_reducible first | exact HB.out | apply below_alloc | apply pw_below_drewN | apply below_drew1) | exact HB.out))) : w0.heap.size ≤ gb131)); clear HO0_3; clear HK; clear HB; have HO0_3 := n0_; have HK := n1_; have HB := n2_; have BK131 := n3_; have GW131 := n4_; have GE131 := n5_; clear n0_ n1_ n2_ n3_ n4_ n5_; clear hb hbox hg) | ((with_reducible refine gate_dst (N := 2) rfl ?_); refine box_event ?hg (N := 2) ?hd (cs := #[.string (⟨#[]⟩ : ByteArray), .slice none 0 0, .string (⟨#[]⟩ : ByteArray), .slice none 0 0, .slice none 0 0]) (t := 54) ?hr ?_; (case hd => rfl); (case hg => rfl); (case hr => first | (go_simp; done) | (go_simp; rfl)); intro gb132 hg w4 hbox hb; have n0_ := Aside0.mk True.intro; have n1_ := Aside0.mk (blk_below (g := gb131) (o := .cells #[.string a0_0, .slice A0_1 l0_1.length c0_1, .string a0_2, .slice Ao2 l0_3.length co2, .slice A0_4 l0_4.length c0_4] 45 (0, 0)) (by (with_reducible repeat (first | refine blk_drewN ?_ _ | refine blk_drew ?_ | refine blk_alloc ?_ _)); exact BK131.out) hb); have n2_ := Aside0.mk (Kept.below (S := (fun k_ => P0_3_ k_)) (by repeat (first | (with_reducible first | exact HK.out | apply Kept.alloc | apply Kept.drewN | apply Kept.drew | refine Kept.setCell ?_ (.inr GW131.out) _) | exact HK.out)) hb); have n3_ := Aside0.mk (below_step (by repeat (first | (with_reducible first | exact HB.out | apply below_alloc | apply pw_below_drewN | apply below_drew1 | refine below_set ?_ GE131.out) | exact HB.out)) hb); have n4_ := Aside0.mk (hbox); have n5_ := Aside0.mk ((by rw [hg]; exact (by first | exact HK.out.1 | exact (show Kept w _ (fun k_ => P0_3_ k_) from by repeat (first | (with_reducible first | exact HK.out | apply Kept.alloc | apply Kept.drewN | apply Kept.drew | refine Kept.setCell ?_ (.inr GW131.out) _) | exact HK.out)).1) : w.heap.size ≤ gb132)); have n6_ := Aside0.mk ((by rw [hg]; exact (below_size (by repeat (first | (with_reducible first | exact HB.out | apply below_alloc | apply pw_below_drewN | apply below_drew1 | refine below_set ?_ GE131.out) | exact HB.out))) : w0.heap.size ≤ gb132)); have n7_ := Aside0.mk ((by rw [hg]; exact Nat.ne_of_lt (blk_lt (g := gb131) (o := .cells #[.string a0_0, .slice A0_1 l0_1.length c0_1, .string a0_2, .slice Ao2 l0_3.length co2, .slice A0_4 l0_4.length c0_4] 45 (0, 0)) (by (with_reducible repeat (first | refine blk_drewN ?_ _ | refine blk_drew ?_ | refine blk_alloc ?_ _)); exact BK131.out)) : gb131 ≠ gb132)); have n8_ := Aside0.mk ((by rw [hg]; exact Nat.ne_of_gt (blk_lt (g := gb131) (o := .cells #[.string a0_0, .slice A0_1 l0_1.length c0_1, .string a0_2, .slice Ao2 l0_3.length co2, .slice A0_4 l0_4.length c0_4] 45 (0, 0)) (by (with_reducible repeat (first | refine blk_drewN ?_ _ | refine blk_drew ?_ | refine blk_alloc ?_ _)); exact BK131.out)) : gb132 ≠ gb131)); clear HO0_3; clear BK131; clear HK; clear HB; have HO0_3 := n0_; have BK131 := n1_; have HK := n2_; have HB := n3_; have BK132 := n4_; have GW132 := n5_; have GE132 := n6_; have NB131_132 := n7_; have NB132_131 := n8_; clear n0_ n1_ n2_ n3_ n4_ n5_ n6_ n7_ n8_; clear hb hbox hg; have hnb5 := NB131_132.out; have hnc5 := NB132_131.out; have hcz6_0 : w4.cell? ⟨gb131, 0, none⟩ = some (.string a0_0) := (blk_cell BK131.out 0).trans rfl; have hcz6_1 : w4.cell? ⟨gb131, 1, none⟩ = some (.slice A0_1 l0_1.length c0_1) := (blk_cell BK131.out 1).trans rfl; have hcz6_2 : w4.cell? ⟨gb131, 2, none⟩ = some (.string a0_2) := (blk_cell BK131.out 2).trans rfl; have hcz6_3 : w4.cell? ⟨gb131, 3, none⟩ = some (.slice Ao2 l0_3.length co2) := (blk_cell BK131.out 3).trans rfl; have hcz6_4 : w4.cell? ⟨gb131, 4, none⟩ = some (.slice A0_4 l0_4.length c0_4) := (blk_cell BK131.out 4).trans rfl; have hfz6_0 := blk_frozen BK131.out 0; have hfz6_1 := blk_frozen BK131.out 1; have hfz6_2 := blk_frozen BK131.out 2; have hfz6_3 := blk_frozen BK131.out 3; have hfz6_4 := blk_frozen BK131.out 4) | ((with_reducible refine gate_dst (N := 3) rfl ?_); refine box_event ?hg (N := 3) ?hd (cs := #[.string (⟨#[]⟩ : ByteArray), .slice none 0 0, .string (⟨#[]⟩ : ByteArray), .slice none 0 0, .slice none 0 0]) (t := 54) ?hr ?_; (case hd => rfl); (case hg => rfl); (case hr => first | (go_simp; done) | (go_simp; rfl)); intro gb133 hg w7 hbox hb; have n0_ := Aside0.mk True.intro; have n1_ := Aside0.mk (blk_below (g := gb131) (o := .cells #[.string a0_0, .slice A0_1 l0_1.length c0_1, .string a0_2, .slice Ao2 l0_3.length co2, .slice A0_4 l0_4.length c0_4] 45 (0, 0)) (by (with_reducible repeat (first | refine blk_drewN ?_ _ | refine blk_drew ?_ | refine blk_alloc ?_ _)); exact BK131.out) hb); have n2_ := Aside0.mk (blk_below (g := gb132) (o := .cells #[.string (⟨#[]⟩ : ByteArray), .slice none 0 0, .string (⟨#[]⟩ : ByteArray), .slice none 0 0, .slice none 0 0] 54 (0, 0)) (by (with_reducible repeat (first | refine blk_drewN ?_ _ | refine blk_drew ?_ | refine blk_alloc ?_ _)); exact BK132.out) hb); have n3_ := Aside0.mk (Kept.below (S := (fun k_ => P0_3_ k_)) (by repeat (first | (with_reducible first | exact HK.out | apply Kept.alloc | apply Kept.drewN | apply Kept.drew | refine Kept.setCell ?_ (.inr GW131.out) _ | refine Kept.setCell ?_ (.inr GW132.out) _) | exact HK.out)) hb); have n4_ := Aside0.mk (below_step (by repeat (first | (with_reducible first | exact HB.out | apply below_alloc | apply pw_below_drewN | apply below_drew1 | refine below_set ?_ GE131.out | refine below_set ?_ GE132.out) | exact HB.out)) hb); have n5_ := Aside0.mk (hbox); have n6_ := Aside0.mk ((by rw [hg]; exact (by first | exact HK.out.1 | exact (show Kept w _ (fun k_ => P0_3_ k_) from by repeat (first | (with_reducible first | exact HK.out | apply Kept.alloc | apply Kept.drewN | apply Kept.drew | refine Kept.setCell ?_ (.inr GW131.out) _ | refine Kept.setCell ?_ (.inr GW132.out) _) | exact HK.out)).1) : w.heap.size ≤ gb133)); have n7_ := Aside0.mk ((by rw [hg]; exact (below_size (by repeat (first | (with_reducible first | exact HB.out | apply below_alloc | apply pw_below_drewN | apply below_drew1 | refine below_set ?_ GE131.out | refine below_set ?_ GE132.out) | exact HB.out))) : w0.heap.size ≤ gb133)); have n8_ := Aside0.mk ((by rw [hg]; exact Nat.ne_of_lt (blk_lt (g := gb131) (o := .cells #[.string a0_0, .slice A0_1 l0_1.length c0_1, .string a0_2, .slice Ao2 l0_3.length co2, .slice A0_4 l0_4.length c0_4] 45 (0, 0)) (by (with_reducible repeat (first | refine blk_drewN ?_ _ | refine blk_drew ?_ | refine blk_alloc ?_ _)); exact BK131.out)) : gb131 ≠ gb133)); have n9_ := Aside0.mk ((by rw [hg]; exact Nat.ne_of_gt (blk_lt (g := gb131) (o := .cells #[.string a0_0, .slice A0_1 l0_1.length c0_1, .string a0_2, .slice Ao2 l0_3.length co2, .slice A0_4 l0_4.length c0_4] 45 (0, 0)) (by (with_reducible repeat (first | refine blk_drewN ?_ _ | refine blk_drew ?_ | refine blk_alloc ?_ _)); exact BK131.out)) : gb133 ≠ gb131)); have n10_ := Aside0.mk ((by rw [hg]; exact Nat.ne_of_lt (blk_lt (g := gb132) (o := .cells #[.string (⟨#[]⟩ : ByteArray), .slice none 0 0, .string (⟨#[]⟩ : ByteArray), .slice none 0 0, .slice none 0 0] 54 (0, 0)) (by (with_reducible repeat (first | refine blk_drewN ?_ _ | refine blk_drew ?_ | refine blk_alloc ?_ _)); exact BK132.out)) : gb132 ≠ gb133)); have n11_ := Aside0.mk ((by rw [hg]; exact Nat.ne_of_gt (blk_lt (g := gb132) (o := .cells #[.string (⟨#[]⟩ : ByteArray), .slice none 0 0, .string (⟨#[]⟩ : ByteArray), .slice none 0 0, .slice none 0 0] 54 (0, 0)) (by (with_reducible repeat (first | refine blk_drewN ?_ _ | refine blk_drew ?_ | refine blk_alloc ?_ _)); exact BK132.out)) : gb133 ≠ gb132)); clear HO0_3; clear BK131; clear BK132; clear HK; clear HB; have HO0_3 := n0_; have BK131 := n1_; have BK132 := n2_; have HK := n3_; have HB := n4_; have BK133 := n5_; have GW133 := n6_; have GE133 := n7_; have NB131_133 := n8_; have NB133_131 := n9_; have NB132_133 := n10_; have NB133_132 := n11_; clear n0_ n1_ n2_ n3_ n4_ n5_ n6_ n7_ n8_ n9_ n10_ n11_; clear hb hbox hg; have hnb8 := NB133_131.out; have hnc8 := NB131_133.out; have hnb9 := NB133_132.out; have hnc9 := NB132_133.out; have hcz10_0 : w7.cell? ⟨gb133, 0, none⟩ = some (.string (⟨#[]⟩ : ByteArray)) := (blk_cell BK133.out 0).trans rfl; have hcz10_1 : w7.cell? ⟨gb133, 1, none⟩ = some (.slice none 0 0) := (blk_cell BK133.out 1).trans rfl; have hcz10_2 : w7.cell? ⟨gb133, 2, none⟩ = some (.string (⟨#[]⟩ : ByteArray)) := (blk_cell BK133.out 2).trans rfl; have hcz10_3 : w7.cell? ⟨gb133, 3, none⟩ = some (.slice none 0 0) := (blk_cell BK133.out 3).trans rfl; have hcz10_4 : w7.cell? ⟨gb133, 4, none⟩ = some (.slice none 0 0) := (blk_cell BK133.out 4).trans rfl; have hfz10_0 := blk_frozen BK133.out 0; have hfz10_1 := blk_frozen BK133.out 1; have hfz10_2 := blk_frozen BK133.out 2; have hfz10_3 := blk_frozen BK133.out 3; have hfz10_4 := blk_frozen BK133.out 4))
  go_loopg [4] k (fun kq v4 w' => ∃ (x4_1 : Int) (x134001_1 : List (S85)) (u134001 : Value), v4 = .int .i64 x4_1 ∧ Aside0 (graftbedlaw11_theirs.l0 kq x4_1 a0_0 l0_1 a0_2 l0_3 l0_4 a0_0 x134001_1 a0_2 l0_3 = some (r1, r2, r3, r4, r5)) ∧ Aside0 (kq ≤ k) ∧ Aside0 True ∧ Aside0 (Kd.R k85 85 w' w0.heap.size (fun k_ => (P0_3_ k_ ∨ w.heap.size ≤ k_)) u134001 x134001_1) ∧ Aside0 True ∧ Aside0 (w'.heap[gb131]? = some (.cells #[.string a0_0, (.slice A0_1 l0_1.length c0_1), .string a0_2, (.slice Ao2 l0_3.length co2), (.slice A0_4 l0_4.length c0_4)] 45 (0, 0))) ∧ Aside0 (w'.heap[gb132]? = some (.cells #[.string (⟨#[]⟩ : ByteArray), (.slice none 0 0), .string (⟨#[]⟩ : ByteArray), (.slice none 0 0), (.slice none 0 0)] 54 (0, 0))) ∧ Aside0 (w'.heap[gb133]? = some (.cells #[.string a0_0, u134001, .string a0_2, (.slice Ao2 l0_3.length co2), (.slice none 0 0)] 54 (0, 0))) ∧ Aside0 (Kept w w' (fun k_ => P0_3_ k_)) ∧ Aside0 (Below w0.heap.size w0 w'))
  case atStart => exact ⟨(0), (([] : List (S85))), (.slice none 0 0), (by first | rfl | (simp; done) | (simp [*]; done)), H', ⟨Nat.le_refl _⟩, ⟨True.intro⟩, ⟨by first | exact Kd.R_nil _ _ _ _ _ | exact Kd.N_nil _ _ _ _ _ | exact Kd.V_nil _ _ _ _ _ | exact Kd.Q_nil _ _ _ _ _ | exact Kd.S_nil _ _ _ _ _⟩, ⟨True.intro⟩, ⟨by (with_reducible repeat (first | refine blk_drewN ?_ _ | refine blk_drew ?_ | refine blk_alloc ?_ _)); refine blk_far ?_ NB131_133.out _; (with_reducible repeat (first | refine blk_drewN ?_ _ | refine blk_drew ?_ | refine blk_alloc ?_ _)); refine blk_far ?_ NB131_133.out _; (with_reducible repeat (first | refine blk_drewN ?_ _ | refine blk_drew ?_ | refine blk_alloc ?_ _)); refine blk_far ?_ NB131_133.out _; (with_reducible repeat (first | refine blk_drewN ?_ _ | refine blk_drew ?_ | refine blk_alloc ?_ _)); refine blk_far ?_ NB131_133.out _; (with_reducible repeat (first | refine blk_drewN ?_ _ | refine blk_drew ?_ | refine blk_alloc ?_ _)); refine blk_far ?_ NB131_133.out _; (with_reducible repeat (first | refine blk_drewN ?_ _ | refine blk_drew ?_ | refine blk_alloc ?_ _)); exact BK131.out⟩, ⟨by (with_reducible repeat (first | refine blk_drewN ?_ _ | refine blk_drew ?_ | refine blk_alloc ?_ _)); refine blk_far ?_ NB132_133.out _; (with_reducible repeat (first | refine blk_drewN ?_ _ | refine blk_drew ?_ | refine blk_alloc ?_ _)); refine blk_far ?_ NB132_133.out _; (with_reducible repeat (first | refine blk_drewN ?_ _ | refine blk_drew ?_ | refine blk_alloc ?_ _)); refine blk_far ?_ NB132_133.out _; (with_reducible repeat (first | refine blk_drewN ?_ _ | refine blk_drew ?_ | refine blk_alloc ?_ _)); refine blk_far ?_ NB132_133.out _; (with_reducible repeat (first | refine blk_drewN ?_ _ | refine blk_drew ?_ | refine blk_alloc ?_ _)); refine blk_far ?_ NB132_133.out _; (with_reducible repeat (first | refine blk_drewN ?_ _ | refine blk_drew ?_ | refine blk_alloc ?_ _)); exact BK132.out⟩, ⟨by (with_reducible repeat (first | refine blk_drewN ?_ _ | refine blk_drew ?_ | refine blk_alloc ?_ _)); refine blk_put (cs := #[.string a0_0, .slice none 0 0, .string a0_2, .slice Ao2 l0_3.length co2, .slice none 0 0]) ?_ 4 _ rfl; (with_reducible repeat (first | refine blk_drewN ?_ _ | refine blk_drew ?_ | refine blk_alloc ?_ _)); refine blk_put (cs := #[.string a0_0, .slice none 0 0, .string a0_2, .slice none 0 0, .slice none 0 0]) ?_ 3 _ rfl; (with_reducible repeat (first | refine blk_drewN ?_ _ | refine blk_drew ?_ | refine blk_alloc ?_ _)); refine blk_put (cs := #[.string a0_0, .slice none 0 0, .string (⟨#[]⟩ : ByteArray), .slice none 0 0, .slice none 0 0]) ?_ 2 _ rfl; (with_reducible repeat (first | refine blk_drewN ?_ _ | refine blk_drew ?_ | refine blk_alloc ?_ _)); refine blk_put (cs := #[.string a0_0, .slice none 0 0, .string (⟨#[]⟩ : ByteArray), .slice none 0 0, .slice none 0 0]) ?_ 1 _ rfl; (with_reducible repeat (first | refine blk_drewN ?_ _ | refine blk_drew ?_ | refine blk_alloc ?_ _)); refine blk_put (cs := #[.string (⟨#[]⟩ : ByteArray), .slice none 0 0, .string (⟨#[]⟩ : ByteArray), .slice none 0 0, .slice none 0 0]) ?_ 0 _ rfl; (with_reducible repeat (first | refine blk_drewN ?_ _ | refine blk_drew ?_ | refine blk_alloc ?_ _)); exact BK133.out⟩, ⟨by repeat (first | (with_reducible first | exact HK.out | apply Kept.alloc | apply Kept.drewN | apply Kept.drew | refine Kept.setCell ?_ (.inr GW131.out) _ | refine Kept.setCell ?_ (.inr GW132.out) _ | refine Kept.setCell ?_ (.inr GW133.out) _) | exact HK.out)⟩, ⟨by repeat (first | (with_reducible first | exact HB.out | apply below_alloc | apply pw_below_drewN | apply below_drew1 | refine below_set ?_ GE131.out | refine below_set ?_ GE132.out | refine below_set ?_ GE133.out) | exact HB.out)⟩⟩
  case round =>
    clear H'
    try clear c1
    try clear p2
    try clear c5
    try clear c8
    try clear c9
    try clear hcz10_0
    try clear hcz10_1
    try clear hcz10_2
    try clear hcz10_3
    try clear hcz10_4
    try clear hcz6_0
    try clear hcz6_1
    try clear hcz6_2
    try clear hcz6_3
    try clear hcz6_4
    try clear hfz10_0
    try clear hfz10_1
    try clear hfz10_2
    try clear hfz10_3
    try clear hfz10_4
    try clear hfz6_0
    try clear hfz6_1
    try clear hfz6_2
    try clear hfz6_3
    try clear hfz6_4
    obtain ⟨x4_1, x134001_1, u134001, rfl, HA, HK1, HO_132003, HO_134001, HO_134003, BK131, BK132, BK133, HK, HB⟩ := hrel
    cases gk with
    | zero => exact absurd HA.out (by simp [graftbedlaw11_theirs.l0])
    | succ k1 =>
      have H := HA.out
      clear HA
      simp only [graftbedlaw11_theirs.l0] at H
      by_cases c11 : x4_1 < (l0_1.length : Int)
      · rw [if_pos c11] at H
        have c11b0 : decide (x4_1 < (l0_1.length : Int)) = true := decide_eq_true c11
        clear c11
        by_cases c12 : 0 ≤ x4_1
        · rw [if_pos c12] at H
          have c12b0 : decide (0 ≤ x4_1) = true := decide_eq_true c12
          clear c12
          by_cases c13 : x134001_1.length < 3518437208883
          · rw [if_pos c13] at H
            have LMc13 := Aside0.mk c13
            clear c13
            obtain ⟨y135, hy135⟩ : ∃ y_ : List (S85), y_ = (x134001_1 ++ [(⟨(rd_T47 l0_1 x4_1).f0, (rd_T47 l0_1 x4_1).f1, (rd_T47 l0_1 x4_1).f2⟩ : S85)]) := ⟨_, rfl⟩
            replace H : (graftbedlaw11_theirs.l0 k1 (wrap64 (x4_1 + 1)) a0_0 l0_1 a0_2 l0_3 l0_4 a0_0 y135 a0_2 l0_3) = some (r1, r2, r3, r4, r5) := by first | (rw [hy135]; with_reducible exact H) | (have H2_ := (Option.bind_some _ _).symm.trans H; rw [hy135]; with_reducible exact H2_) | (have H2_ := (Option.bind_some _ _).symm.trans H; with_reducible exact H2_) | with_reducible exact H | (rw [hy135]; exact H) | exact H
            have Ny135 := Aside0.mk hy135
            clear hy135
            have H' := Aside0.mk H
            clear H
            have hnb14 := NB131_132.out
            have hnc14 := NB132_131.out
            have hnb15 := NB131_133.out
            have hnc15 := NB133_131.out
            have hcz16_0 : wr.cell? ⟨gb131, 0, none⟩ = some (.string a0_0) := (blk_cell BK131.out 0).trans rfl
            have hcz16_1 : wr.cell? ⟨gb131, 1, none⟩ = some (.slice A0_1 l0_1.length c0_1) := (blk_cell BK131.out 1).trans rfl
            have hcz16_2 : wr.cell? ⟨gb131, 2, none⟩ = some (.string a0_2) := (blk_cell BK131.out 2).trans rfl
            have hcz16_3 : wr.cell? ⟨gb131, 3, none⟩ = some (.slice Ao2 l0_3.length co2) := (blk_cell BK131.out 3).trans rfl
            have hcz16_4 : wr.cell? ⟨gb131, 4, none⟩ = some (.slice A0_4 l0_4.length c0_4) := (blk_cell BK131.out 4).trans rfl
            have hfz16_0 := blk_frozen BK131.out 0
            have hfz16_1 := blk_frozen BK131.out 1
            have hfz16_2 := blk_frozen BK131.out 2
            have hfz16_3 := blk_frozen BK131.out 3
            have hfz16_4 := blk_frozen BK131.out 4
            try go_wp2
            have n0_ := Aside0.mk True.intro
            have n1_ := Aside0.mk (Kd.R_drew HO_134001.out)
            have n2_ := Aside0.mk True.intro
            have n3_ := Aside0.mk (blk_drew BK131.out)
            have n4_ := Aside0.mk (blk_drew BK132.out)
            have n5_ := Aside0.mk (blk_drew BK133.out)
            have n6_ := Aside0.mk (Kept.drew HK.out)
            have n7_ := Aside0.mk (below_drew1 HB.out)
            clear HO_132003
            clear HO_134001
            clear HO_134003
            clear BK131
            clear BK132
            clear BK133
            clear HK
            clear HB
            have HO_132003 := n0_
            have HO_134001 := n1_
            have HO_134003 := n2_
            have BK131 := n3_
            have BK132 := n4_
            have BK133 := n5_
            have HK := n6_
            have HB := n7_
            clear n0_ n1_ n2_ n3_ n4_ n5_ n6_ n7_
            have p134 : 0 ≤ (x4_1 : Int) := of_decide_eq_true (by first | (with_reducible assumption) | assumption)
            have q134 : x4_1 < (l0_1.length : Int) := of_decide_eq_true (by first | (with_reducible assumption) | assumption)
            obtain ⟨ad134, e134, hx134_0, hx134_1, hx134_2⟩ := at_T47 (Kd.C_kept_now HR0_1.out HK.out) x4_1 p134 q134
            have hw134_2 := hx134_2
            have hw134_1 := hx134_1
            have hw134_0 := hx134_0
            cases e134
            replace p134 := eq_true p134
            replace q134 := eq_true q134
            refine start_ (n := 11) (S := fun w' => w'.cell? ⟨gb133, 0, none⟩ = some (.string a0_0) ∧ w'.cell? ⟨gb133, 1, none⟩ = some (u134001) ∧ w'.cell? ⟨gb133, 2, none⟩ = some (.string a0_2) ∧ w'.cell? ⟨gb133, 3, none⟩ = some (.slice Ao2 l0_3.length co2) ∧ w'.cell? ⟨gb133, 4, none⟩ = some (.slice none 0 0) ∧ w'.cell? ⟨gb131, 0, none⟩ = some (.string a0_0) ∧ w'.cell? ⟨gb131, 1, none⟩ = some (.slice (some ad134) l0_1.length c0_1) ∧ w'.cell? ⟨gb131, 2, none⟩ = some (.string a0_2) ∧ w'.cell? ⟨gb131, 3, none⟩ = some (.slice Ao2 l0_3.length co2) ∧ w'.cell? ⟨gb131, 4, none⟩ = some (.slice A0_4 l0_4.length c0_4) ∧ w'.cell? (ad134.add ((x4_1).toNat * 3)) = some (.string ((rd_T47 l0_1 x4_1).f0)) ∧ w'.cell? ⟨(ad134.add ((x4_1).toNat * 3)).block, (ad134.add ((x4_1).toNat * 3)).off + 1, none⟩ = some (.string ((rd_T47 l0_1 x4_1).f1)) ∧ w'.cell? ⟨(ad134.add ((x4_1).toNat * 3)).block, (ad134.add ((x4_1).toNat * 3)).off + 2, none⟩ = some (.int .i64 ((rd_T47 l0_1 x4_1).f2))) (ds := [8, 10]) #[false, false, false, false, false, false, false, false, false, false, false] (by kernel_rfl) rfl rfl ⟨(blk_cell BK133.out 0).trans rfl, (blk_cell BK133.out 1).trans rfl, (blk_cell BK133.out 2).trans rfl, (blk_cell BK133.out 3).trans rfl, (blk_cell BK133.out 4).trans rfl, (blk_cell BK131.out 0).trans rfl, (blk_cell BK131.out 1).trans rfl, (blk_cell BK131.out 2).trans rfl, (blk_cell BK131.out 3).trans rfl, (blk_cell BK131.out 4).trans rfl, hx134_0, hx134_1, hx134_2⟩ (fun hHeld => ?_); refine with_tabW graftbedlaw11_theirs.tab5 graftbedlaw11_theirs.bits5 (fun HT_ HW_ => ?_)
            generalize wr.drew = w17 at HO_134001 BK131 BK132 BK133 HK HB hx134_0 hx134_1 hx134_2 hHeld ⊢
            refine pure_ (i := 0) (N := some 20) (v := ?_) (a' := ?_) #[true, false, false, false, false, false, false, false, false, false, false] rfl rfl (any_of HT_.out (by kernel_rfl)) (fun _ _ _ h => h) (Or.inl ⟨by rfl, ?_⟩) ?_ ?_
            rotate_left
            · intro w'
              go_simp
              with_reducible rfl
            rotate_left
            · simp only [Act.put, List.setIfInBounds_toArray, List.set_cons_zero, List.set_cons_succ, i64_w, i32_w]
              rfl
            refine pure_ (i := 2) (N := some 22) (v := ?_) (a' := ?_) #[true, false, true, false, false, false, false, false, false, false, false] rfl rfl (any_of HT_.out (by kernel_rfl)) (fun _ _ _ h => h) (Or.inl ⟨by rfl, ?_⟩) ?_ ?_
            rotate_left
            · intro w'
              go_simp
              with_reducible rfl
            rotate_left
            · simp only [Act.put, List.setIfInBounds_toArray, List.set_cons_zero, List.set_cons_succ, i64_w, i32_w]
              rfl
            refine pure_ (i := 4) (N := some 24) (v := ?_) (a' := ?_) #[true, false, true, false, true, false, false, false, false, false, false] rfl rfl (any_of HT_.out (by kernel_rfl)) (fun _ _ _ h => h) (Or.inl ⟨by rfl, ?_⟩) ?_ ?_
            rotate_left
            · intro w'
              go_simp
              with_reducible rfl
            rotate_left
            · simp only [Act.put, List.setIfInBounds_toArray, List.set_cons_zero, List.set_cons_succ, i64_w, i32_w]
              rfl
            refine take_ (i := 1) (N := some 21) (v := ?_) (a' := ?_) #[true, true, true, false, true, false, false, false, false, false, false] rfl rfl (take_ofW HT_.out HW_.out (by kernel_rfl)) (fun _ _ _ h => h) (Or.inl ⟨by rfl, ?_⟩) hHeld ?_ ?_
            rotate_left
            · rintro w' ⟨s0, s1, s2, s3, s4, s5, s6, s7, s8, s9, s10, s11, s12⟩
              go_simp
              with_reducible rfl
            rotate_left
            · simp only [Act.put, List.setIfInBounds_toArray, List.set_cons_zero, List.set_cons_succ, i64_w, i32_w]
              rfl
            refine take_ (i := 3) (N := some 23) (v := ?_) (a' := ?_) #[true, true, true, true, true, false, false, false, false, false, false] rfl rfl (take_ofW HT_.out HW_.out (by kernel_rfl)) (fun _ _ _ h => h) (Or.inl ⟨by rfl, ?_⟩) hHeld ?_ ?_
            rotate_left
            · rintro w' ⟨s0, s1, s2, s3, s4, s5, s6, s7, s8, s9, s10, s11, s12⟩
              go_simp
              with_reducible rfl
            rotate_left
            · simp only [Act.put, List.setIfInBounds_toArray, List.set_cons_zero, List.set_cons_succ, i64_w, i32_w]
              rfl
            refine pure_ (i := 5) (N := some 25) (v := ?_) (a' := ?_) #[true, true, true, true, true, true, false, false, false, false, false] rfl rfl (any_of HT_.out (by kernel_rfl)) (fun _ _ _ h => h) (Or.inl ⟨by rfl, ?_⟩) ?_ ?_
            rotate_left
            · intro w'
              go_simp
              with_reducible rfl
            rotate_left
            · simp only [Act.put, List.setIfInBounds_toArray, List.set_cons_zero, List.set_cons_succ, i64_w, i32_w]
              rfl
            refine take_ (i := 6) (N := some 26) (v := ?_) (a' := ?_) #[true, true, true, true, true, true, true, false, false, false, false] rfl rfl (take_ofW HT_.out HW_.out (by kernel_rfl)) (fun _ _ _ h => h) (Or.inl ⟨by rfl, ?_⟩) hHeld ?_ ?_
            rotate_left
            · rintro w' ⟨s0, s1, s2, s3, s4, s5, s6, s7, s8, s9, s10, s11, s12⟩
              go_simp
              with_reducible rfl
            rotate_left
            · simp only [Act.put, List.setIfInBounds_toArray, List.set_cons_zero, List.set_cons_succ, i64_w, i32_w]
              rfl
            refine one_ (i := 7) (N := some 27) #[true, true, true, true, true, true, true, true, false, false, false] rfl rfl (one_of HT_.out (by kernel_rfl)) (by decide) (fun K hK => ?_)
            refine value_ (w1 := ?_) (v := ?_) (by rfl) rfl ?_ ?_
            rotate_left 2
            · go_simp
              constructor
              · rfl
              · rfl
            refine hK.out _ _ ⟨(blk_cell (blk_alloc BK133.out _) 0).trans rfl, (blk_cell (blk_alloc BK133.out _) 1).trans rfl, (blk_cell (blk_alloc BK133.out _) 2).trans rfl, (blk_cell (blk_alloc BK133.out _) 3).trans rfl, (blk_cell (blk_alloc BK133.out _) 4).trans rfl, (blk_cell (blk_alloc BK131.out _) 0).trans rfl, (blk_cell (blk_alloc BK131.out _) 1).trans rfl, (blk_cell (blk_alloc BK131.out _) 2).trans rfl, (blk_cell (blk_alloc BK131.out _) 3).trans rfl, (blk_cell (blk_alloc BK131.out _) 4).trans rfl, (World.cell?_alloc_lt _ _ _ (World.block_lt_of_cell? _ _ (hHeld.2.2.2.2.2.2.2.2.2.2.1))).trans (hHeld.2.2.2.2.2.2.2.2.2.2.1), (World.cell?_alloc_lt _ _ _ (World.block_lt_of_cell? _ _ (hHeld.2.2.2.2.2.2.2.2.2.2.2.1))).trans (hHeld.2.2.2.2.2.2.2.2.2.2.2.1), (World.cell?_alloc_lt _ _ _ (World.block_lt_of_cell? _ _ (hHeld.2.2.2.2.2.2.2.2.2.2.2.2))).trans (hHeld.2.2.2.2.2.2.2.2.2.2.2.2)⟩ (fun hHeld => ?_)
            clear hK K
            refine norm_ (a' := ?_) ?_ ?_
            rotate_left
            · show Act.put _ (some 27) _ = _
              simp only [Act.put, List.setIfInBounds_toArray, List.set_cons_zero, List.set_cons_succ, i64_w, i32_w]
              rfl
            refine last_ (i := 8) (N := some 28) #[true, true, true, true, true, true, true, true, true, false, false] rfl rfl (one_of HT_.out (by kernel_rfl)) (by decide) (fun K hK => ?_)
            refine Kd.R_append_step k85 (w0 := w0) w0.heap.size (by rfl) (.tmp 21) (.tmp 27) 51 85 (.agg #[(.string ⟨#[]⟩), (.string ⟨#[]⟩), (.int .i64 0)]) 40 rfl Try.underlying51 info85 rfl (by decide) (by omega) u134001 x134001_1 (⟨(rd_T47 l0_1 x4_1).f0, (rd_T47 l0_1 x4_1).f1, (rd_T47 l0_1 x4_1).f2⟩ : S85) [.string ((rd_T47 l0_1 x4_1).f0), .string ((rd_T47 l0_1 x4_1).f1), .int .i64 ((rd_T47 l0_1 x4_1).f2)] (fun k_ => (P0_3_ k_ ∨ w.heap.size ≤ k_)) (fun _ => False) rfl rfl ?aP (fun _ hk => hk.elim) ?aF ?aO ?aB ?aS ?aL ?_
            (case aP => exact k85_mkM _ _ _ (⟨(rd_T47 l0_1 x4_1).f0, (rd_T47 l0_1 x4_1).f1, (rd_T47 l0_1 x4_1).f2⟩ : S85))
            (case aB => exact (by repeat (first | (with_reducible first | exact HB.out | apply below_alloc | apply pw_below_drewN | apply below_drew1 | refine below_set ?_ GE131.out | refine below_set ?_ GE132.out | refine below_set ?_ GE133.out) | exact HB.out)))
            (case aF => exact (fun k_ hk => (.inr (Nat.le_trans (by first | exact HK.out.1 | exact (show Kept w _ (fun k_ => P0_3_ k_) from by repeat (first | (with_reducible first | exact HK.out | apply Kept.alloc | apply Kept.drewN | apply Kept.drew | refine Kept.setCell ?_ (.inr GW131.out) _ | refine Kept.setCell ?_ (.inr GW132.out) _ | refine Kept.setCell ?_ (.inr GW133.out) _) | exact HK.out)).1) hk))))
            (case aO => exact (by (with_reducible repeat (first | apply Kd.R_alloc | apply Kd.R_drewN | apply Kd.R_drew)); exact HO_134001.out))
            (case aS => exact (below_size (by repeat (first | (with_reducible first | exact HB.out | apply below_alloc | apply pw_below_drewN | apply below_drew1 | refine below_set ?_ GE131.out | refine below_set ?_ GE132.out | refine below_set ?_ GE133.out) | exact HB.out))))
            (case aL => have := LMc13.out; omega)
            intro v136 w18 ho hb hg hat
            rw [← Ny135.out] at ho
            have n0_ := Aside0.mk True.intro
            have n1_ := Aside0.mk True.intro
            have n2_ := Aside0.mk (blk_grown (g := gb131) (o := .cells #[.string a0_0, .slice (some ad134) l0_1.length c0_1, .string a0_2, .slice Ao2 l0_3.length co2, .slice A0_4 l0_4.length c0_4] 45 (0, 0)) (by (with_reducible repeat (first | refine blk_drewN ?_ _ | refine blk_drew ?_ | refine blk_alloc ?_ _)); exact BK131.out) hg (Kd.R_ne HO_134001.out BK131.out (by decide)))
            have n3_ := Aside0.mk (blk_grown (g := gb132) (o := .cells #[.string (⟨#[]⟩ : ByteArray), .slice none 0 0, .string (⟨#[]⟩ : ByteArray), .slice none 0 0, .slice none 0 0] 54 (0, 0)) (by (with_reducible repeat (first | refine blk_drewN ?_ _ | refine blk_drew ?_ | refine blk_alloc ?_ _)); exact BK132.out) hg (Kd.R_ne HO_134001.out BK132.out (by decide)))
            have n4_ := Aside0.mk (blk_grown (g := gb133) (o := .cells #[.string a0_0, u134001, .string a0_2, .slice Ao2 l0_3.length co2, .slice none 0 0] 54 (0, 0)) (by (with_reducible repeat (first | refine blk_drewN ?_ _ | refine blk_drew ?_ | refine blk_alloc ?_ _)); exact BK133.out) hg (Kd.R_ne HO_134001.out BK133.out (by decide)))
            have n5_ := Aside0.mk (hb)
            have n6_ := Aside0.mk (Kept.of_grown (S := (fun k_ => P0_3_ k_)) hg (by repeat (first | (with_reducible first | exact HK.out | apply Kept.alloc | apply Kept.drewN | apply Kept.drew | refine Kept.setCell ?_ (.inr GW131.out) _ | refine Kept.setCell ?_ (.inr GW132.out) _ | refine Kept.setCell ?_ (.inr GW133.out) _) | exact HK.out)) (fun k_ e_ => (HO_134001.out.1 k_ e_)))
            have n7_ := Aside0.mk (ho)
            clear HO_132003
            clear HO_134003
            clear BK131
            clear BK132
            clear BK133
            clear HB
            clear HK
            clear HO_134001
            have HO_132003 := n0_
            have HO_134003 := n1_
            have BK131 := n2_
            have BK132 := n3_
            have BK133 := n4_
            have HB := n5_
            have HK := n6_
            have HO137 := n7_
            clear n0_ n1_ n2_ n3_ n4_ n5_ n6_ n7_
            clear ho hb hg hat
            obtain ⟨Ao19, co19, eo19⟩ := Kd.R_slice HO137.out
            (first | subst eo19 | (injection eo19 with f1_ f2_ f3_; have f4_ := f1_.symm; have f5_ := f3_.symm; clear f1_ f2_ f3_; subst f4_; subst f5_))
            refine hK.out _ _ ?_
            clear hK K
            refine norm_ (a' := ?_) ?_ ?_
            rotate_left
            · show Act.put _ (some 28) _ = _
              simp only [Act.put, List.setIfInBounds_toArray, List.set_cons_zero, List.set_cons_succ, i64_w, i32_w]
              rfl
            refine pure_ (i := 9) (N := some 29) (v := ?_) (a' := ?_) #[true, true, true, true, true, true, true, true, true, true, false] rfl rfl (any_of HT_.out (by kernel_rfl)) (fun _ _ _ h => h) (Or.inl ⟨by rfl, ?_⟩) ?_ ?_
            rotate_left
            · intro w'
              go_simp
              with_reducible rfl
            rotate_left
            · simp only [Act.put, List.setIfInBounds_toArray, List.set_cons_zero, List.set_cons_succ, i64_w, i32_w]
              rfl
            refine last_ (i := 10) (N := none) #[true, true, true, true, true, true, true, true, true, true, true] rfl rfl (one_of HT_.out (by kernel_rfl)) (by decide) (fun K hK => ?_)
            have hs20 : w18.cell? ⟨gb133, 1, none⟩ = some (u134001) := (blk_cell BK133.out 1).trans rfl
            have hfs20 := blk_frozen BK133.out 1
            have hns20_0 := NB131_133.out
            have hns20_1 := NB132_133.out
            have hms20_0 := NB133_131.out
            have hms20_1 := NB133_132.out
            refine skip_ (w1 := ?_) (by rfl) rfl ?_ ?_
            rotate_left
            · go_simp
              rfl
            refine hK.out _ _ ?_
            clear hK K
            refine done_ (done_of HT_.out (by kernel_rfl)) ?_
            try go_wp2
            go_roundg k1
            case measure => have := HK1.out; omega
            case rel => exact ⟨(wrap64 (x4_1 + 1)), (y135), (.slice Ao19 y135.length co19), (by first | rfl | (simp; done) | (simp [*]; done)), H', ⟨by have := HK1.out; omega⟩, ⟨True.intro⟩, ⟨by (with_reducible repeat (first | apply Kd.R_alloc | apply Kd.R_drewN | apply Kd.R_drew)); exact Kd.R_mono (Kd.R_far (p := ⟨gb133, 1, none⟩) (Kd.R_types HO137.out BK133.out (by decide)) (fun _ hk => hk.2) (.slice Ao19 y135.length co19)) (fun _ hk => hk.1)⟩, ⟨True.intro⟩, ⟨by (with_reducible repeat (first | refine blk_drewN ?_ _ | refine blk_drew ?_ | refine blk_alloc ?_ _)); refine blk_far ?_ NB131_133.out _; (with_reducible repeat (first | refine blk_drewN ?_ _ | refine blk_drew ?_ | refine blk_alloc ?_ _)); exact BK131.out⟩, ⟨by (with_reducible repeat (first | refine blk_drewN ?_ _ | refine blk_drew ?_ | refine blk_alloc ?_ _)); refine blk_far ?_ NB132_133.out _; (with_reducible repeat (first | refine blk_drewN ?_ _ | refine blk_drew ?_ | refine blk_alloc ?_ _)); exact BK132.out⟩, ⟨by (with_reducible repeat (first | refine blk_drewN ?_ _ | refine blk_drew ?_ | refine blk_alloc ?_ _)); refine blk_put (cs := #[.string a0_0, u134001, .string a0_2, .slice Ao2 l0_3.length co2, .slice none 0 0]) ?_ 1 _ rfl; (with_reducible repeat (first | refine blk_drewN ?_ _ | refine blk_drew ?_ | refine blk_alloc ?_ _)); exact BK133.out⟩, ⟨by repeat (first | (with_reducible first | exact HK.out | apply Kept.alloc | apply Kept.drewN | apply Kept.drew | refine Kept.setCell ?_ (.inr GW131.out) _ | refine Kept.setCell ?_ (.inr GW132.out) _ | refine Kept.setCell ?_ (.inr GW133.out) _) | exact HK.out)⟩, ⟨by repeat (first | (with_reducible first | exact HB.out | apply below_alloc | apply pw_below_drewN | apply below_drew1 | refine below_set ?_ GE131.out | refine below_set ?_ GE132.out | refine below_set ?_ GE133.out) | exact HB.out)⟩⟩
          · rw [if_neg c13] at H
            exact absurd H (by simp)
        · rw [if_neg c12] at H
          exact absurd H (by simp)
      · rw [if_neg c11] at H
        have c11b0 : decide (x4_1 < (l0_1.length : Int)) = false := decide_eq_false c11
        clear c11
        have H' := Aside0.mk H
        clear H
        have hnb21 := NB131_132.out
        have hnc21 := NB132_131.out
        have hnb22 := NB131_133.out
        have hnc22 := NB133_131.out
        have hcz23_0 : wr.cell? ⟨gb131, 0, none⟩ = some (.string a0_0) := (blk_cell BK131.out 0).trans rfl
        have hcz23_1 : wr.cell? ⟨gb131, 1, none⟩ = some (.slice A0_1 l0_1.length c0_1) := (blk_cell BK131.out 1).trans rfl
        have hcz23_2 : wr.cell? ⟨gb131, 2, none⟩ = some (.string a0_2) := (blk_cell BK131.out 2).trans rfl
        have hcz23_3 : wr.cell? ⟨gb131, 3, none⟩ = some (.slice Ao2 l0_3.length co2) := (blk_cell BK131.out 3).trans rfl
        have hcz23_4 : wr.cell? ⟨gb131, 4, none⟩ = some (.slice A0_4 l0_4.length c0_4) := (blk_cell BK131.out 4).trans rfl
        have hfz23_0 := blk_frozen BK131.out 0
        have hfz23_1 := blk_frozen BK131.out 1
        have hfz23_2 := blk_frozen BK131.out 2
        have hfz23_3 := blk_frozen BK131.out 3
        have hfz23_4 := blk_frozen BK131.out 4
        go_wp2
        go_loopg [5] k1 (fun kq v5 w' => ∃ (x5_2 : Int) (x134004_2 : List (S87)) (u134004 : Value), v5 = .int .i64 x5_2 ∧ Aside0 (graftbedlaw11_theirs.l1 kq x5_2 a0_0 l0_1 a0_2 l0_3 l0_4 a0_0 x134001_1 a0_2 l0_3 x134004_2 = some (r1, r2, r3, r4, r5)) ∧ Aside0 (kq ≤ k1) ∧ Aside0 True ∧ Aside0 (Kd.R k85 85 w' w0.heap.size (fun k_ => (P0_3_ k_ ∨ w.heap.size ≤ k_)) u134001 x134001_1) ∧ Aside0 True ∧ Aside0 (Kd.R k87 87 w' w0.heap.size (fun k_ => (P0_3_ k_ ∨ w.heap.size ≤ k_)) u134004 x134004_2) ∧ Aside0 (w'.heap[gb131]? = some (.cells #[.string a0_0, (.slice A0_1 l0_1.length c0_1), .string a0_2, (.slice Ao2 l0_3.length co2), (.slice A0_4 l0_4.length c0_4)] 45 (0, 0))) ∧ Aside0 (w'.heap[gb132]? = some (.cells #[.string (⟨#[]⟩ : ByteArray), (.slice none 0 0), .string (⟨#[]⟩ : ByteArray), (.slice none 0 0), (.slice none 0 0)] 54 (0, 0))) ∧ Aside0 (w'.heap[gb133]? = some (.cells #[.string a0_0, u134001, .string a0_2, (.slice Ao2 l0_3.length co2), u134004] 54 (0, 0))) ∧ Aside0 (Kept w w' (fun k_ => P0_3_ k_)) ∧ Aside0 (Below w0.heap.size w0 w'))
        case atStart => exact ⟨(0), (([] : List (S87))), (.slice none 0 0), (by first | rfl | (simp; done) | (simp [*]; done)), H', ⟨Nat.le_refl _⟩, ⟨True.intro⟩, ⟨by (with_reducible repeat (first | apply Kd.R_alloc | apply Kd.R_drewN | apply Kd.R_drew)); exact HO_134001.out⟩, ⟨True.intro⟩, ⟨by first | exact Kd.R_nil _ _ _ _ _ | exact Kd.N_nil _ _ _ _ _ | exact Kd.V_nil _ _ _ _ _ | exact Kd.Q_nil _ _ _ _ _ | exact Kd.S_nil _ _ _ _ _⟩, ⟨by (with_reducible repeat (first | refine blk_drewN ?_ _ | refine blk_drew ?_ | refine blk_alloc ?_ _)); exact BK131.out⟩, ⟨by (with_reducible repeat (first | refine blk_drewN ?_ _ | refine blk_drew ?_ | refine blk_alloc ?_ _)); exact BK132.out⟩, ⟨by (with_reducible repeat (first | refine blk_drewN ?_ _ | refine blk_drew ?_ | refine blk_alloc ?_ _)); exact BK133.out⟩, ⟨by repeat (first | (with_reducible first | exact HK.out | apply Kept.alloc | apply Kept.drewN | apply Kept.drew | refine Kept.setCell ?_ (.inr GW131.out) _ | refine Kept.setCell ?_ (.inr GW132.out) _ | refine Kept.setCell ?_ (.inr GW133.out) _) | exact HK.out)⟩, ⟨by repeat (first | (with_reducible first | exact HB.out | apply below_alloc | apply pw_below_drewN | apply below_drew1 | refine below_set ?_ GE131.out | refine below_set ?_ GE132.out | refine below_set ?_ GE133.out) | exact HB.out)⟩⟩
        case round =>
          clear H'
          try clear c1
          try clear p1
          try clear q1
          try clear hx1
          try clear c2
          try clear p2
          try clear c5
          try clear p6
          try clear c8
          try clear c9
          try clear c11
          try clear c11b0
          try clear c12
          try clear c12b0
          try clear c13
          try clear p13
          try clear q13
          try clear hx13
          try clear c14
          try clear c15
          try clear c16
          try clear c21
          try clear c22
          try clear hcz10_0
          try clear hcz10_1
          try clear hcz10_2
          try clear hcz10_3
          try clear hcz10_4
          try clear hcz16_0
          try clear hcz16_1
          try clear hcz16_2
          try clear hcz16_3
          try clear hcz16_4
          try clear hcz23_0
          try clear hcz23_1
          try clear hcz23_2
          try clear hcz23_3
          try clear hcz23_4
          try clear hcz6_0
          try clear hcz6_1
          try clear hcz6_2
          try clear hcz6_3
          try clear hcz6_4
          try clear hfz10_0
          try clear hfz10_1
          try clear hfz10_2
          try clear hfz10_3
          try clear hfz10_4
          try clear hfz16_0
          try clear hfz16_1
          try clear hfz16_2
          try clear hfz16_3
          try clear hfz16_4
          try clear hfz23_0
          try clear hfz23_1
          try clear hfz23_2
          try clear hfz23_3
          try clear hfz23_4
          try clear hfz6_0
          try clear hfz6_1
          try clear hfz6_2
          try clear hfz6_3
          try clear hfz6_4
          try clear hx134_0
          try clear hx134_1
          try clear hx134_2
          try clear p134
          try clear p2
          try clear q134
          obtain ⟨x5_2, x134004_2, u134004, rfl, HA, HK2, HO_132003, HO_134001, HO_134003, HO_134004, BK131, BK132, BK133, HK, HB⟩ := hrel
          cases gk with
          | zero => exact absurd HA.out (by simp [graftbedlaw11_theirs.l1])
          | succ k2 =>
            have H := HA.out
            clear HA
            simp only [graftbedlaw11_theirs.l1] at H
            by_cases c24 : x5_2 < (l0_4.length : Int)
            · rw [if_pos c24] at H
              have c24b0 : decide (x5_2 < (l0_4.length : Int)) = true := decide_eq_true c24
              clear c24
              by_cases c25 : 0 ≤ x5_2
              · rw [if_pos c25] at H
                have c25b0 : decide (0 ≤ x5_2) = true := decide_eq_true c25
                clear c25
                by_cases c26 : x134004_2.length < 5864062014805
                · rw [if_pos c26] at H
                  have LMc26 := Aside0.mk c26
                  clear c26
                  obtain ⟨y139, hy139⟩ : ∃ y_ : List (S87), y_ = (x134004_2 ++ [(⟨(rd_T88 l0_4 x5_2).f0, (rd_T88 l0_4 x5_2).f1⟩ : S87)]) := ⟨_, rfl⟩
                  replace H : (graftbedlaw11_theirs.l1 k2 (wrap64 (x5_2 + 1)) a0_0 l0_1 a0_2 l0_3 l0_4 a0_0 x134001_1 a0_2 l0_3 y139) = some (r1, r2, r3, r4, r5) := by first | (rw [hy139]; with_reducible exact H) | (have H2_ := (Option.bind_some _ _).symm.trans H; rw [hy139]; with_reducible exact H2_) | (have H2_ := (Option.bind_some _ _).symm.trans H; with_reducible exact H2_) | with_reducible exact H | (rw [hy139]; exact H) | exact H
                  have Ny139 := Aside0.mk hy139
                  clear hy139
                  have H' := Aside0.mk H
                  clear H
                  have hnb27 := NB131_132.out
                  have hnc27 := NB132_131.out
                  have hnb28 := NB131_133.out
                  have hnc28 := NB133_131.out
                  have hcz29_0 : wr.cell? ⟨gb131, 0, none⟩ = some (.string a0_0) := (blk_cell BK131.out 0).trans rfl
                  have hcz29_1 : wr.cell? ⟨gb131, 1, none⟩ = some (.slice A0_1 l0_1.length c0_1) := (blk_cell BK131.out 1).trans rfl
                  have hcz29_2 : wr.cell? ⟨gb131, 2, none⟩ = some (.string a0_2) := (blk_cell BK131.out 2).trans rfl
                  have hcz29_3 : wr.cell? ⟨gb131, 3, none⟩ = some (.slice Ao2 l0_3.length co2) := (blk_cell BK131.out 3).trans rfl
                  have hcz29_4 : wr.cell? ⟨gb131, 4, none⟩ = some (.slice A0_4 l0_4.length c0_4) := (blk_cell BK131.out 4).trans rfl
                  have hfz29_0 := blk_frozen BK131.out 0
                  have hfz29_1 := blk_frozen BK131.out 1
                  have hfz29_2 := blk_frozen BK131.out 2
                  have hfz29_3 := blk_frozen BK131.out 3
                  have hfz29_4 := blk_frozen BK131.out 4
                  try go_wp2
                  have n0_ := Aside0.mk True.intro
                  have n1_ := Aside0.mk (Kd.R_drew HO_134001.out)
                  have n2_ := Aside0.mk True.intro
                  have n3_ := Aside0.mk (Kd.R_drew HO_134004.out)
                  have n4_ := Aside0.mk (blk_drew BK131.out)
                  have n5_ := Aside0.mk (blk_drew BK132.out)
                  have n6_ := Aside0.mk (blk_drew BK133.out)
                  have n7_ := Aside0.mk (Kept.drew HK.out)
                  have n8_ := Aside0.mk (below_drew1 HB.out)
                  clear HO_132003
                  clear HO_134001
                  clear HO_134003
                  clear HO_134004
                  clear BK131
                  clear BK132
                  clear BK133
                  clear HK
                  clear HB
                  have HO_132003 := n0_
                  have HO_134001 := n1_
                  have HO_134003 := n2_
                  have HO_134004 := n3_
                  have BK131 := n4_
                  have BK132 := n5_
                  have BK133 := n6_
                  have HK := n7_
                  have HB := n8_
                  clear n0_ n1_ n2_ n3_ n4_ n5_ n6_ n7_ n8_
                  have p138 : 0 ≤ (x5_2 : Int) := of_decide_eq_true (by first | (with_reducible assumption) | assumption)
                  have q138 : x5_2 < (l0_4.length : Int) := of_decide_eq_true (by first | (with_reducible assumption) | assumption)
                  obtain ⟨ad138, e138, hx138_0, hx138_1⟩ := at_T88 (Kd.C_kept_now HR0_4.out HK.out) x5_2 p138 q138
                  have hw138_1 := hx138_1
                  have hw138_0 := hx138_0
                  cases e138
                  replace p138 := eq_true p138
                  replace q138 := eq_true q138
                  refine start_ (n := 11) (S := fun w' => w'.cell? ⟨gb133, 0, none⟩ = some (.string a0_0) ∧ w'.cell? ⟨gb133, 1, none⟩ = some (u134001) ∧ w'.cell? ⟨gb133, 2, none⟩ = some (.string a0_2) ∧ w'.cell? ⟨gb133, 3, none⟩ = some (.slice Ao2 l0_3.length co2) ∧ w'.cell? ⟨gb133, 4, none⟩ = some (u134004) ∧ w'.cell? ⟨gb131, 0, none⟩ = some (.string a0_0) ∧ w'.cell? ⟨gb131, 1, none⟩ = some (.slice A0_1 l0_1.length c0_1) ∧ w'.cell? ⟨gb131, 2, none⟩ = some (.string a0_2) ∧ w'.cell? ⟨gb131, 3, none⟩ = some (.slice Ao2 l0_3.length co2) ∧ w'.cell? ⟨gb131, 4, none⟩ = some (.slice (some ad138) l0_4.length c0_4) ∧ w'.cell? (ad138.add ((x5_2).toNat * 2)) = some (.string ((rd_T88 l0_4 x5_2).f0)) ∧ w'.cell? ⟨(ad138.add ((x5_2).toNat * 2)).block, (ad138.add ((x5_2).toNat * 2)).off + 1, none⟩ = some (.int .i64 ((rd_T88 l0_4 x5_2).f1))) (ds := [8, 10]) #[false, false, false, false, false, false, false, false, false, false, false] (by kernel_rfl) rfl rfl ⟨(blk_cell BK133.out 0).trans rfl, (blk_cell BK133.out 1).trans rfl, (blk_cell BK133.out 2).trans rfl, (blk_cell BK133.out 3).trans rfl, (blk_cell BK133.out 4).trans rfl, (blk_cell BK131.out 0).trans rfl, (blk_cell BK131.out 1).trans rfl, (blk_cell BK131.out 2).trans rfl, (blk_cell BK131.out 3).trans rfl, (blk_cell BK131.out 4).trans rfl, hx138_0, hx138_1⟩ (fun hHeld => ?_); refine with_tabW graftbedlaw11_theirs.tab9 graftbedlaw11_theirs.bits9 (fun HT_ HW_ => ?_)
                  generalize wr.drew = w30 at HO_134001 HO_134004 BK131 BK132 BK133 HK HB hx138_0 hx138_1 hHeld ⊢
                  refine pure_ (i := 0) (N := some 37) (v := ?_) (a' := ?_) #[true, false, false, false, false, false, false, false, false, false, false] rfl rfl (any_of HT_.out (by kernel_rfl)) (fun _ _ _ h => h) (Or.inl ⟨by rfl, ?_⟩) ?_ ?_
                  rotate_left
                  · intro w'
                    go_simp
                    with_reducible rfl
                  rotate_left
                  · simp only [Act.put, List.setIfInBounds_toArray, List.set_cons_zero, List.set_cons_succ, i64_w, i32_w]
                    rfl
                  refine pure_ (i := 2) (N := some 39) (v := ?_) (a' := ?_) #[true, false, true, false, false, false, false, false, false, false, false] rfl rfl (any_of HT_.out (by kernel_rfl)) (fun _ _ _ h => h) (Or.inl ⟨by rfl, ?_⟩) ?_ ?_
                  rotate_left
                  · intro w'
                    go_simp
                    with_reducible rfl
                  rotate_left
                  · simp only [Act.put, List.setIfInBounds_toArray, List.set_cons_zero, List.set_cons_succ, i64_w, i32_w]
                    rfl
                  refine pure_ (i := 4) (N := some 41) (v := ?_) (a' := ?_) #[true, false, true, false, true, false, false, false, false, false, false] rfl rfl (any_of HT_.out (by kernel_rfl)) (fun _ _ _ h => h) (Or.inl ⟨by rfl, ?_⟩) ?_ ?_
                  rotate_left
                  · intro w'
                    go_simp
                    with_reducible rfl
                  rotate_left
                  · simp only [Act.put, List.setIfInBounds_toArray, List.set_cons_zero, List.set_cons_succ, i64_w, i32_w]
                    rfl
                  refine take_ (i := 1) (N := some 38) (v := ?_) (a' := ?_) #[true, true, true, false, true, false, false, false, false, false, false] rfl rfl (take_ofW HT_.out HW_.out (by kernel_rfl)) (fun _ _ _ h => h) (Or.inl ⟨by rfl, ?_⟩) hHeld ?_ ?_
                  rotate_left
                  · rintro w' ⟨s0, s1, s2, s3, s4, s5, s6, s7, s8, s9, s10, s11⟩
                    go_simp
                    with_reducible rfl
                  rotate_left
                  · simp only [Act.put, List.setIfInBounds_toArray, List.set_cons_zero, List.set_cons_succ, i64_w, i32_w]
                    rfl
                  refine take_ (i := 3) (N := some 40) (v := ?_) (a' := ?_) #[true, true, true, true, true, false, false, false, false, false, false] rfl rfl (take_ofW HT_.out HW_.out (by kernel_rfl)) (fun _ _ _ h => h) (Or.inl ⟨by rfl, ?_⟩) hHeld ?_ ?_
                  rotate_left
                  · rintro w' ⟨s0, s1, s2, s3, s4, s5, s6, s7, s8, s9, s10, s11⟩
                    go_simp
                    with_reducible rfl
                  rotate_left
                  · simp only [Act.put, List.setIfInBounds_toArray, List.set_cons_zero, List.set_cons_succ, i64_w, i32_w]
                    rfl
                  refine pure_ (i := 5) (N := some 42) (v := ?_) (a' := ?_) #[true, true, true, true, true, true, false, false, false, false, false] rfl rfl (any_of HT_.out (by kernel_rfl)) (fun _ _ _ h => h) (Or.inl ⟨by rfl, ?_⟩) ?_ ?_
                  rotate_left
                  · intro w'
                    go_simp
                    with_reducible rfl
                  rotate_left
                  · simp only [Act.put, List.setIfInBounds_toArray, List.set_cons_zero, List.set_cons_succ, i64_w, i32_w]
                    rfl
                  refine take_ (i := 6) (N := some 43) (v := ?_) (a' := ?_) #[true, true, true, true, true, true, true, false, false, false, false] rfl rfl (take_ofW HT_.out HW_.out (by kernel_rfl)) (fun _ _ _ h => h) (Or.inl ⟨by rfl, ?_⟩) hHeld ?_ ?_
                  rotate_left
                  · rintro w' ⟨s0, s1, s2, s3, s4, s5, s6, s7, s8, s9, s10, s11⟩
                    go_simp
                    with_reducible rfl
                  rotate_left
                  · simp only [Act.put, List.setIfInBounds_toArray, List.set_cons_zero, List.set_cons_succ, i64_w, i32_w]
                    rfl
                  refine one_ (i := 7) (N := some 44) #[true, true, true, true, true, true, true, true, false, false, false] rfl rfl (one_of HT_.out (by kernel_rfl)) (by decide) (fun K hK => ?_)
                  refine value_ (w1 := ?_) (v := ?_) (by rfl) rfl ?_ ?_
                  rotate_left 2
                  · go_simp
                    constructor
                    · rfl
                    · rfl
                  refine hK.out _ _ ⟨(blk_cell (blk_alloc BK133.out _) 0).trans rfl, (blk_cell (blk_alloc BK133.out _) 1).trans rfl, (blk_cell (blk_alloc BK133.out _) 2).trans rfl, (blk_cell (blk_alloc BK133.out _) 3).trans rfl, (blk_cell (blk_alloc BK133.out _) 4).trans rfl, (blk_cell (blk_alloc BK131.out _) 0).trans rfl, (blk_cell (blk_alloc BK131.out _) 1).trans rfl, (blk_cell (blk_alloc BK131.out _) 2).trans rfl, (blk_cell (blk_alloc BK131.out _) 3).trans rfl, (blk_cell (blk_alloc BK131.out _) 4).trans rfl, (World.cell?_alloc_lt _ _ _ (World.block_lt_of_cell? _ _ (hHeld.2.2.2.2.2.2.2.2.2.2.1))).trans (hHeld.2.2.2.2.2.2.2.2.2.2.1), (World.cell?_alloc_lt _ _ _ (World.block_lt_of_cell? _ _ (hHeld.2.2.2.2.2.2.2.2.2.2.2))).trans (hHeld.2.2.2.2.2.2.2.2.2.2.2)⟩ (fun hHeld => ?_)
                  clear hK K
                  refine norm_ (a' := ?_) ?_ ?_
                  rotate_left
                  · show Act.put _ (some 44) _ = _
                    simp only [Act.put, List.setIfInBounds_toArray, List.set_cons_zero, List.set_cons_succ, i64_w, i32_w]
                    rfl
                  refine last_ (i := 8) (N := some 45) #[true, true, true, true, true, true, true, true, true, false, false] rfl rfl (one_of HT_.out (by kernel_rfl)) (by decide) (fun K hK => ?_)
                  refine Kd.R_append_step k87 (w0 := w0) w0.heap.size (by rfl) (.tmp 38) (.tmp 44) 52 87 (.agg #[(.string ⟨#[]⟩), (.int .i64 0)]) 24 rfl Try.underlying52 info87 rfl (by decide) (by omega) u134004 x134004_2 (⟨(rd_T88 l0_4 x5_2).f0, (rd_T88 l0_4 x5_2).f1⟩ : S87) [.string ((rd_T88 l0_4 x5_2).f0), .int .i64 ((rd_T88 l0_4 x5_2).f1)] (fun k_ => (P0_3_ k_ ∨ w.heap.size ≤ k_)) (fun _ => False) rfl rfl ?aP (fun _ hk => hk.elim) ?aF ?aO ?aB ?aS ?aL ?_
                  (case aP => exact k87_mkM _ _ _ (⟨(rd_T88 l0_4 x5_2).f0, (rd_T88 l0_4 x5_2).f1⟩ : S87))
                  (case aB => exact (by repeat (first | (with_reducible first | exact HB.out | apply below_alloc | apply pw_below_drewN | apply below_drew1 | refine below_set ?_ GE131.out | refine below_set ?_ GE132.out | refine below_set ?_ GE133.out) | exact HB.out)))
                  (case aF => exact (fun k_ hk => (.inr (Nat.le_trans (by first | exact HK.out.1 | exact (show Kept w _ (fun k_ => P0_3_ k_) from by repeat (first | (with_reducible first | exact HK.out | apply Kept.alloc | apply Kept.drewN | apply Kept.drew | refine Kept.setCell ?_ (.inr GW131.out) _ | refine Kept.setCell ?_ (.inr GW132.out) _ | refine Kept.setCell ?_ (.inr GW133.out) _) | exact HK.out)).1) hk))))
                  (case aO => exact (by (with_reducible repeat (first | apply Kd.R_alloc | apply Kd.R_drewN | apply Kd.R_drew)); exact HO_134004.out))
                  (case aS => exact (below_size (by repeat (first | (with_reducible first | exact HB.out | apply below_alloc | apply pw_below_drewN | apply below_drew1 | refine below_set ?_ GE131.out | refine below_set ?_ GE132.out | refine below_set ?_ GE133.out) | exact HB.out))))
                  (case aL => have := LMc26.out; omega)
                  intro v140 w31 ho hb hg hat
                  rw [← Ny139.out] at ho
                  have n0_ := Aside0.mk True.intro
                  have n1_ := Aside0.mk (Kd.R_over' (by (with_reducible repeat (first | apply Kd.R_alloc | apply Kd.R_drewN | apply Kd.R_drew)); exact HO_134001.out) (Kd.R_typed (by (with_reducible repeat (first | apply Kd.R_alloc | apply Kd.R_drewN | apply Kd.R_drew)); exact HO_134004.out)) (by decide) hg)
                  have n2_ := Aside0.mk True.intro
                  have n3_ := Aside0.mk (blk_grown (g := gb131) (o := .cells #[.string a0_0, .slice A0_1 l0_1.length c0_1, .string a0_2, .slice Ao2 l0_3.length co2, .slice (some ad138) l0_4.length c0_4] 45 (0, 0)) (by (with_reducible repeat (first | refine blk_drewN ?_ _ | refine blk_drew ?_ | refine blk_alloc ?_ _)); exact BK131.out) hg (Kd.R_ne HO_134004.out BK131.out (by decide)))
                  have n4_ := Aside0.mk (blk_grown (g := gb132) (o := .cells #[.string (⟨#[]⟩ : ByteArray), .slice none 0 0, .string (⟨#[]⟩ : ByteArray), .slice none 0 0, .slice none 0 0] 54 (0, 0)) (by (with_reducible repeat (first | refine blk_drewN ?_ _ | refine blk_drew ?_ | refine blk_alloc ?_ _)); exact BK132.out) hg (Kd.R_ne HO_134004.out BK132.out (by decide)))
                  have n5_ := Aside0.mk (blk_grown (g := gb133) (o := .cells #[.string a0_0, u134001, .string a0_2, .slice Ao2 l0_3.length co2, u134004] 54 (0, 0)) (by (with_reducible repeat (first | refine blk_drewN ?_ _ | refine blk_drew ?_ | refine blk_alloc ?_ _)); exact BK133.out) hg (Kd.R_ne HO_134004.out BK133.out (by decide)))
                  have n6_ := Aside0.mk (hb)
                  have n7_ := Aside0.mk (Kept.of_grown (S := (fun k_ => P0_3_ k_)) hg (by repeat (first | (with_reducible first | exact HK.out | apply Kept.alloc | apply Kept.drewN | apply Kept.drew | refine Kept.setCell ?_ (.inr GW131.out) _ | refine Kept.setCell ?_ (.inr GW132.out) _ | refine Kept.setCell ?_ (.inr GW133.out) _) | exact HK.out)) (fun k_ e_ => (HO_134004.out.1 k_ e_)))
                  have n8_ := Aside0.mk (ho)
                  clear HO_132003
                  clear HO_134001
                  clear HO_134003
                  clear BK131
                  clear BK132
                  clear BK133
                  clear HB
                  clear HK
                  clear HO_134004
                  have HO_132003 := n0_
                  have HO_134001 := n1_
                  have HO_134003 := n2_
                  have BK131 := n3_
                  have BK132 := n4_
                  have BK133 := n5_
                  have HB := n6_
                  have HK := n7_
                  have HO141 := n8_
                  clear n0_ n1_ n2_ n3_ n4_ n5_ n6_ n7_ n8_
                  clear ho hb hg hat
                  obtain ⟨Ao32, co32, eo32⟩ := Kd.R_slice HO141.out
                  (first | subst eo32 | (injection eo32 with f1_ f2_ f3_; have f4_ := f1_.symm; have f5_ := f3_.symm; clear f1_ f2_ f3_; subst f4_; subst f5_))
                  refine hK.out _ _ ?_
                  clear hK K
                  refine norm_ (a' := ?_) ?_ ?_
                  rotate_left
                  · show Act.put _ (some 45) _ = _
                    simp only [Act.put, List.setIfInBounds_toArray, List.set_cons_zero, List.set_cons_succ, i64_w, i32_w]
                    rfl
                  refine pure_ (i := 9) (N := some 46) (v := ?_) (a' := ?_) #[true, true, true, true, true, true, true, true, true, true, false] rfl rfl (any_of HT_.out (by kernel_rfl)) (fun _ _ _ h => h) (Or.inl ⟨by rfl, ?_⟩) ?_ ?_
                  rotate_left
                  · intro w'
                    go_simp
                    with_reducible rfl
                  rotate_left
                  · simp only [Act.put, List.setIfInBounds_toArray, List.set_cons_zero, List.set_cons_succ, i64_w, i32_w]
                    rfl
                  refine last_ (i := 10) (N := none) #[true, true, true, true, true, true, true, true, true, true, true] rfl rfl (one_of HT_.out (by kernel_rfl)) (by decide) (fun K hK => ?_)
                  have hs33 : w31.cell? ⟨gb133, 4, none⟩ = some (u134004) := (blk_cell BK133.out 4).trans rfl
                  have hfs33 := blk_frozen BK133.out 4
                  have hns33_0 := NB131_133.out
                  have hns33_1 := NB132_133.out
                  have hms33_0 := NB133_131.out
                  have hms33_1 := NB133_132.out
                  refine skip_ (w1 := ?_) (by rfl) rfl ?_ ?_
                  rotate_left
                  · go_simp
                    rfl
                  refine hK.out _ _ ?_
                  clear hK K
                  refine done_ (done_of HT_.out (by kernel_rfl)) ?_
                  try go_wp2
                  go_roundg k2
                  case measure => have := HK1.out; have := HK2.out; omega
                  case rel => exact ⟨(wrap64 (x5_2 + 1)), (y139), (.slice Ao32 y139.length co32), (by first | rfl | (simp; done) | (simp [*]; done)), H', ⟨by have := HK1.out; have := HK2.out; omega⟩, ⟨True.intro⟩, ⟨by (with_reducible repeat (first | apply Kd.R_alloc | apply Kd.R_drewN | apply Kd.R_drew)); exact Kd.R_mono (Kd.R_far (p := ⟨gb133, 4, none⟩) (Kd.R_types HO_134001.out BK133.out (by decide)) (fun _ hk => hk.2) (.slice Ao32 y139.length co32)) (fun _ hk => hk.1)⟩, ⟨True.intro⟩, ⟨by (with_reducible repeat (first | apply Kd.R_alloc | apply Kd.R_drewN | apply Kd.R_drew)); exact Kd.R_mono (Kd.R_far (p := ⟨gb133, 4, none⟩) (Kd.R_types HO141.out BK133.out (by decide)) (fun _ hk => hk.2) (.slice Ao32 y139.length co32)) (fun _ hk => hk.1)⟩, ⟨by (with_reducible repeat (first | refine blk_drewN ?_ _ | refine blk_drew ?_ | refine blk_alloc ?_ _)); refine blk_far ?_ NB131_133.out _; (with_reducible repeat (first | refine blk_drewN ?_ _ | refine blk_drew ?_ | refine blk_alloc ?_ _)); exact BK131.out⟩, ⟨by (with_reducible repeat (first | refine blk_drewN ?_ _ | refine blk_drew ?_ | refine blk_alloc ?_ _)); refine blk_far ?_ NB132_133.out _; (with_reducible repeat (first | refine blk_drewN ?_ _ | refine blk_drew ?_ | refine blk_alloc ?_ _)); exact BK132.out⟩, ⟨by (with_reducible repeat (first | refine blk_drewN ?_ _ | refine blk_drew ?_ | refine blk_alloc ?_ _)); refine blk_put (cs := #[.string a0_0, u134001, .string a0_2, .slice Ao2 l0_3.length co2, u134004]) ?_ 4 _ rfl; (with_reducible repeat (first | refine blk_drewN ?_ _ | refine blk_drew ?_ | refine blk_alloc ?_ _)); exact BK133.out⟩, ⟨by repeat (first | (with_reducible first | exact HK.out | apply Kept.alloc | apply Kept.drewN | apply Kept.drew | refine Kept.setCell ?_ (.inr GW131.out) _ | refine Kept.setCell ?_ (.inr GW132.out) _ | refine Kept.setCell ?_ (.inr GW133.out) _) | exact HK.out)⟩, ⟨by repeat (first | (with_reducible first | exact HB.out | apply below_alloc | apply pw_below_drewN | apply below_drew1 | refine below_set ?_ GE131.out | refine below_set ?_ GE132.out | refine below_set ?_ GE133.out) | exact HB.out)⟩⟩
                · rw [if_neg c26] at H
                  exact absurd H (by simp)
              · rw [if_neg c25] at H
                exact absurd H (by simp)
            · rw [if_neg c24] at H
              have c24b0 : decide (x5_2 < (l0_4.length : Int)) = false := decide_eq_false c24
              clear c24
              simp only [Option.some.injEq, Prod.mk.injEq] at H
              obtain ⟨rfl, rfl, rfl, rfl, rfl⟩ := H
              have hnb34 := NB131_132.out
              have hnc34 := NB132_131.out
              have hnb35 := NB131_133.out
              have hnc35 := NB133_131.out
              have hcz36_0 : wr.cell? ⟨gb131, 0, none⟩ = some (.string a0_0) := (blk_cell BK131.out 0).trans rfl
              have hcz36_1 : wr.cell? ⟨gb131, 1, none⟩ = some (.slice A0_1 l0_1.length c0_1) := (blk_cell BK131.out 1).trans rfl
              have hcz36_2 : wr.cell? ⟨gb131, 2, none⟩ = some (.string a0_2) := (blk_cell BK131.out 2).trans rfl
              have hcz36_3 : wr.cell? ⟨gb131, 3, none⟩ = some (.slice Ao2 l0_3.length co2) := (blk_cell BK131.out 3).trans rfl
              have hcz36_4 : wr.cell? ⟨gb131, 4, none⟩ = some (.slice A0_4 l0_4.length c0_4) := (blk_cell BK131.out 4).trans rfl
              have hfz36_0 := blk_frozen BK131.out 0
              have hfz36_1 := blk_frozen BK131.out 1
              have hfz36_2 := blk_frozen BK131.out 2
              have hfz36_3 := blk_frozen BK131.out 3
              have hfz36_4 := blk_frozen BK131.out 4
              have hnb37 := NB133_132.out
              have hnc37 := NB132_133.out
              have hcz38_0 : wr.cell? ⟨gb133, 0, none⟩ = some (.string a0_0) := (blk_cell BK133.out 0).trans rfl
              have hcz38_1 : wr.cell? ⟨gb133, 1, none⟩ = some (u134001) := (blk_cell BK133.out 1).trans rfl
              have hcz38_2 : wr.cell? ⟨gb133, 2, none⟩ = some (.string a0_2) := (blk_cell BK133.out 2).trans rfl
              have hcz38_3 : wr.cell? ⟨gb133, 3, none⟩ = some (.slice Ao2 l0_3.length co2) := (blk_cell BK133.out 3).trans rfl
              have hcz38_4 : wr.cell? ⟨gb133, 4, none⟩ = some (u134004) := (blk_cell BK133.out 4).trans rfl
              have hfz38_0 := blk_frozen BK133.out 0
              have hfz38_1 := blk_frozen BK133.out 1
              have hfz38_2 := blk_frozen BK133.out 2
              have hfz38_3 := blk_frozen BK133.out 3
              have hfz38_4 := blk_frozen BK133.out 4
              have hcz39_0 : wr.cell? ⟨gb132, 0, none⟩ = some (.string (⟨#[]⟩ : ByteArray)) := (blk_cell BK132.out 0).trans rfl
              have hcz39_1 : wr.cell? ⟨gb132, 1, none⟩ = some (.slice none 0 0) := (blk_cell BK132.out 1).trans rfl
              have hcz39_2 : wr.cell? ⟨gb132, 2, none⟩ = some (.string (⟨#[]⟩ : ByteArray)) := (blk_cell BK132.out 2).trans rfl
              have hcz39_3 : wr.cell? ⟨gb132, 3, none⟩ = some (.slice none 0 0) := (blk_cell BK132.out 3).trans rfl
              have hcz39_4 : wr.cell? ⟨gb132, 4, none⟩ = some (.slice none 0 0) := (blk_cell BK132.out 4).trans rfl
              have hfz39_0 := blk_frozen BK132.out 0
              have hfz39_1 := blk_frozen BK132.out 1
              have hfz39_2 := blk_frozen BK132.out 2
              have hfz39_3 := blk_frozen BK132.out 3
              have hfz39_4 := blk_frozen BK132.out 4
              obtain ⟨Ao40, co40, eo40⟩ := Kd.R_slice HO_134001.out
              subst eo40
              obtain ⟨Ao41, co41, eo41⟩ := Kd.R_slice HO_134004.out
              subst eo41
              go_wp2
              refine bodyPost_ret (results_cell_row rfl _ _ gb132 54 #[.string a0_0, .slice Ao40 x134001_1.length co40, .string a0_2, .slice Ao2 l0_3.length co2, .slice Ao41 x134004_2.length co41] (0, 0) _ rfl (by (with_reducible repeat (first | refine blk_drewN ?_ _ | refine blk_drew ?_ | refine blk_alloc ?_ _)); refine blk_put (cs := #[.string a0_0, .slice Ao40 x134001_1.length co40, .string a0_2, .slice Ao2 l0_3.length co2, .slice none 0 0]) ?_ 4 _ rfl; (with_reducible repeat (first | refine blk_drewN ?_ _ | refine blk_drew ?_ | refine blk_alloc ?_ _)); refine blk_put (cs := #[.string a0_0, .slice Ao40 x134001_1.length co40, .string a0_2, .slice none 0 0, .slice none 0 0]) ?_ 3 _ rfl; (with_reducible repeat (first | refine blk_drewN ?_ _ | refine blk_drew ?_ | refine blk_alloc ?_ _)); refine blk_put (cs := #[.string a0_0, .slice Ao40 x134001_1.length co40, .string (⟨#[]⟩ : ByteArray), .slice none 0 0, .slice none 0 0]) ?_ 2 _ rfl; (with_reducible repeat (first | refine blk_drewN ?_ _ | refine blk_drew ?_ | refine blk_alloc ?_ _)); refine blk_put (cs := #[.string a0_0, .slice none 0 0, .string (⟨#[]⟩ : ByteArray), .slice none 0 0, .slice none 0 0]) ?_ 1 _ rfl; (with_reducible repeat (first | refine blk_drewN ?_ _ | refine blk_drew ?_ | refine blk_alloc ?_ _)); refine blk_put (cs := #[.string (⟨#[]⟩ : ByteArray), .slice none 0 0, .string (⟨#[]⟩ : ByteArray), .slice none 0 0, .slice none 0 0]) ?_ 0 _ rfl; (with_reducible repeat (first | refine blk_drewN ?_ _ | refine blk_drew ?_ | refine blk_alloc ?_ _)); exact BK132.out) Try.underlying54 rfl (by kernel_rfl)) rfl ?_
              exact ⟨_, _, by first | rfl | (simp [errW_none, errW_some] <;> rfl) | (simp [*, errW_none, errW_some] <;> rfl), by (with_reducible repeat (first | apply Kd.R_alloc | apply Kd.R_drewN | apply Kd.R_drew)); exact Kd.R_mono (Kd.R_far (p := ⟨gb132, 4, none⟩) (Kd.R_far (p := ⟨gb132, 3, none⟩) (Kd.R_far (p := ⟨gb132, 2, none⟩) (Kd.R_far (p := ⟨gb132, 1, none⟩) (Kd.R_far (p := ⟨gb132, 0, none⟩) (Kd.R_types HO_134001.out BK132.out (by decide)) (fun _ hk => hk.2) (.string a0_0)) (fun _ hk => hk.2) (.slice Ao40 x134001_1.length co40)) (fun _ hk => hk.2) (.string a0_2)) (fun _ hk => hk.2) (.slice Ao2 l0_3.length co2)) (fun _ hk => hk.2) (.slice Ao41 x134004_2.length co41)) (fun _ hk => hk.1), by (with_reducible repeat (first | apply Kd.R_alloc | apply Kd.R_drewN | apply Kd.R_drew)); exact Kd.R_mono (Kd.R_far (p := ⟨gb132, 4, none⟩) (Kd.R_far (p := ⟨gb132, 3, none⟩) (Kd.R_far (p := ⟨gb132, 2, none⟩) (Kd.R_far (p := ⟨gb132, 1, none⟩) (Kd.R_far (p := ⟨gb132, 0, none⟩) (Kd.R_types HO_134004.out BK132.out (by decide)) (fun _ hk => hk.2) (.string a0_0)) (fun _ hk => hk.2) (.slice Ao40 x134001_1.length co40)) (fun _ hk => hk.2) (.string a0_2)) (fun _ hk => hk.2) (.slice Ao2 l0_3.length co2)) (fun _ hk => hk.2) (.slice Ao41 x134004_2.length co41)) (fun _ hk => hk.1), by repeat (first | (with_reducible first | exact HB.out | apply below_alloc | apply pw_below_drewN | apply below_drew1 | refine below_set ?_ GE131.out | refine below_set ?_ GE132.out | refine below_set ?_ GE133.out) | exact HB.out), by repeat (first | (with_reducible first | exact HK.out | apply Kept.alloc | apply Kept.drewN | apply Kept.drew | refine Kept.setCell ?_ (.inr GW131.out) _ | refine Kept.setCell ?_ (.inr GW132.out) _ | refine Kept.setCell ?_ (.inr GW133.out) _) | exact HK.out)⟩

end Go.Proofs.Ytggeahplncijbaa.HHeaderPaths
