/- The contract of expr.Eval: the plain function it computes; no conditions. -/
import Derived.Test.YtfnikmkjhbbbgaaDoorRun
set_option linter.unusedVariables false
set_option linter.unusedSimpArgs false
namespace Go.Proofs.YtfnikmkjhbbbgaaDoor.HExpr
open Go.RowKit Go.Proofs.YtfnikmkjhbbbgaaDoorW.PrintWords Go.Proofs.YtfnikmkjhbbbgaaDoorW.PrintLast Go.Proofs.YtfnikmkjhbbbgaaDoorW.PrintMore
def expr_Eval.f (l0 : List (S51)) (l1 : List ByteArray) : Option (Bool) := if small l0 then evF l0 l1 else none
theorem store_func {P : Program} {w : World} {a : Addr} {m : Mode} (f : Fn) (x y : Array Value) : (store a (.func f x y) m).run P w = stored P w a (.func f x y) m := run_store P w a _ m rfl
theorem store_nilFunc {P : Program} {w : World} {a : Addr} {m : Mode} : (store a .nilFunc m).run P w = stored P w a .nilFunc m := run_store P w a _ m rfl
attribute [local go_sem] store_func store_nilFunc
set_option maxHeartbeats 8000000 in
set_option maxRecDepth 100000 in
theorem plain_calls (g : Nat) (w : World) : Calls Tryd.prog 34 #[.func (.func 35) #[] #[.pointer (some ⟨g, 0, none⟩)]] w fun e w' => e = .returned (.agg (plainV g)) ∧ Below w.heap.size w w' := by
  have hu61 := Tryd.underlying61
  have hu59 := Tryd.underlying59
  have HB := Aside0.mk (Below.refl w.heap.size w)
  go_enter Tryd.func34, Tryd.ntmps34
  go_wp2_with (first | ((with_reducible refine gate_dst (N := 2) rfl ?_); refine box_event ?hg (N := 2) ?hd (cs := #[.nilFunc, .nilFunc, .nilFunc, .nilFunc, .nilFunc]) (t := 61) ?hr ?_; (case hd => rfl); (case hg => rfl); (case hr => first | (go_simp; done) | (go_simp; rfl)); intro gb hgb w9 hbox hb; have HB9 := Aside0.mk (below_step HB.out hb); have BK := Aside0.mk hbox; have HG := Aside0.mk (by rw [hgb]; exact Nat.le_refl _ : w.heap.size ≤ gb); clear hb hbox hgb HB; have hcz0 : w9.cell? ⟨gb, 0, none⟩ = some .nilFunc := (blk_cell BK.out 0).trans rfl; have hfz0 := blk_frozen BK.out 0; have hcz1 : w9.cell? ⟨gb, 1, none⟩ = some .nilFunc := (blk_cell BK.out 1).trans rfl; have hfz1 := blk_frozen BK.out 1; have hcz2 : w9.cell? ⟨gb, 2, none⟩ = some .nilFunc := (blk_cell BK.out 2).trans rfl; have hfz2 := blk_frozen BK.out 2; have hcz3 : w9.cell? ⟨gb, 3, none⟩ = some .nilFunc := (blk_cell BK.out 3).trans rfl; have hfz3 := blk_frozen BK.out 3; have hcz4 : w9.cell? ⟨gb, 4, none⟩ = some .nilFunc := (blk_cell BK.out 4).trans rfl; have hfz4 := blk_frozen BK.out 4))
  have hfin := (blk_put (cs' := #[.func (.func 35) #[] #[.pointer (some ⟨g, 0, none⟩)], .nilFunc, .func (.func 51) #[] #[], .func (.func 52) #[] #[], .func (.func 53) #[] #[]]) (blk_put (cs' := #[.func (.func 35) #[] #[.pointer (some ⟨g, 0, none⟩)], .nilFunc, .func (.func 51) #[] #[], .func (.func 52) #[] #[], .nilFunc]) (blk_put (cs' := #[.func (.func 35) #[] #[.pointer (some ⟨g, 0, none⟩)], .nilFunc, .func (.func 51) #[] #[], .nilFunc, .nilFunc]) (blk_put (cs' := #[.func (.func 35) #[] #[.pointer (some ⟨g, 0, none⟩)], .nilFunc, .nilFunc, .nilFunc, .nilFunc]) (blk_put (cs' := #[.func (.func 35) #[] #[.pointer (some ⟨g, 0, none⟩)], .nilFunc, .nilFunc, .nilFunc, .nilFunc]) BK.out 0 (.func (.func 35) #[] #[.pointer (some ⟨g, 0, none⟩)]) rfl) 1 .nilFunc rfl) 2 (.func (.func 51) #[] #[]) rfl) 3 (.func (.func 52) #[] #[]) rfl) 4 (.func (.func 53) #[] #[]) rfl)
  (try simp only [Exit.inBlock, Exit.then])
  refine bodyPost_ret (results_cell_row rfl _ _ gb 61 (plainV g) (0, 0) _ rfl hfin hu61 rfl (by kernel_rfl)) rfl ?_
  exact ⟨rfl, below_set (below_set (below_set (below_set (below_set HB9.out HG.out) HG.out) HG.out) HG.out) HG.out⟩
set_option maxHeartbeats 8000000 in
set_option maxRecDepth 100000 in
theorem expr_Eval.calls (A0 : Option Addr) (c0 : Nat) (l0 : List (S51)) (A1 : Option Addr) (c1 : Nat) (l1 : List ByteArray) (r : Bool) (w : World) (hr0 : Kd.C k51 w A0 l0.length l0) (hc0 : l0.length ≤ c0) (hr1 : Kd.C Kd.string w A1 l1.length l1) (hc1 : l1.length ≤ c1) (h : expr_Eval.f l0 l1 = some r) :
    Calls Tryd.prog 15 #[.slice A0 l0.length c0, .slice A1 l1.length c1] w fun e w' => e = .returned (.bool r) ∧ Below w.heap.size w w' := by
  have HR0 := Aside0.mk hr0
  have HC0 := Aside0.mk hc0
  have HR1 := Aside0.mk hr1
  have HC1 := Aside0.mk hc1
  clear hr0 hc0 hr1 hc1
  have HB := Aside0.mk (Below.refl w.heap.size w)
  unfold expr_Eval.f at h
  by_cases hsm : small l0
  case neg => rw [if_neg hsm] at h; cases h
  rw [if_pos hsm] at h
  have Hck := Aside0.mk (show expr_Check.f l0 = some (chk l0) by unfold expr_Check.f; rw [if_pos hsm])
  clear hsm
  unfold evF at h
  by_cases c1_ : chk l0 = 0
  · rw [if_pos c1_] at h
    have H := Aside0.mk h
    have HCK := Aside0.mk c1_
    have hb0 : (chk l0 == 0) = true := by simp [c1_]
    clear h c1_
    go_enter Tryd.func15, Tryd.ntmps15
    go_wp2_with (first | ((with_reducible refine gate_dst (N := 3) rfl ?_); refine box_event ?hg (N := 3) ?hd (cs := #[.slice A1 l1.length c1]) (t := 23) ?hr ?_; (case hd => rfl); (case hg => rfl); (case hr => first | (go_simp; done) | (go_simp; rfl)); intro gt hgt w2 hbox hb; have HB2 := Aside0.mk (below_step HB.out hb); have BT := Aside0.mk hbox; have HR02 := Aside0.mk (Kd.C_below HR0.out hb); have HR12 := Aside0.mk (Kd.C_below HR1.out hb); clear hb hbox hgt HB HR0 HR1) | (go_at_call 12; refine (expr_Check.calls _ _ l0 _ _ HR02.out HC0.out Hck.out).mono ?_; rintro e w3 ⟨rfl, hb⟩; have HB3 := Aside0.mk (below_step HB2.out hb); have BT3 := Aside0.mk (blk_below BT.out hb); have HR03 := Aside0.mk (Kd.C_below HR02.out hb); have HR13 := Aside0.mk (Kd.C_below HR12.out hb); clear hb HB2 BT HR02 HR12) | (go_at_call 34; refine (plain_calls gt _).mono ?_; rintro e w4 ⟨rfl, hb⟩; have HB4 := Aside0.mk (below_step HB3.out hb); have BT4 := Aside0.mk (blk_below BT3.out hb); have HR04 := Aside0.mk (Kd.C_below HR03.out hb); have HR14 := Aside0.mk (Kd.C_below HR13.out hb); clear hb HB3 BT3 HR03 HR13) | (go_at_call 37; refine (run_calls gt _ _ l0 _ _ l1 r _ HR04.out HC0.out HR14.out HC1.out BT4.out HCK.out H.out).mono ?_; rintro e w5 ⟨rfl, hb⟩; have HB5 := Aside0.mk (below_step HB4.out hb); clear hb HB4))
    go_ret
    exact ⟨rfl, HB5.out⟩
  · rw [if_neg c1_] at h
    obtain rfl := Option.some.inj h
    have hb0 : (chk l0 == 0) = false := by simp [c1_]
    clear c1_ h
    go_enter Tryd.func15, Tryd.ntmps15
    go_wp2_with (first | ((with_reducible refine gate_dst (N := 3) rfl ?_); refine box_event ?hg (N := 3) ?hd (cs := #[.slice A1 l1.length c1]) (t := 23) ?hr ?_; (case hd => rfl); (case hg => rfl); (case hr => first | (go_simp; done) | (go_simp; rfl)); intro gt hgt w2 hbox hb; have HB2 := Aside0.mk (below_step HB.out hb); have BT := Aside0.mk hbox; have HR02 := Aside0.mk (Kd.C_below HR0.out hb); have HR12 := Aside0.mk (Kd.C_below HR1.out hb); clear hb hbox hgt HB HR0 HR1) | (go_at_call 12; refine (expr_Check.calls _ _ l0 _ _ HR02.out HC0.out Hck.out).mono ?_; rintro e w3 ⟨rfl, hb⟩; have HB3 := Aside0.mk (below_step HB2.out hb); clear hb HB2))
    go_ret
    exact ⟨rfl, HB3.out⟩
end Go.Proofs.YtfnikmkjhbbbgaaDoor.HExpr
