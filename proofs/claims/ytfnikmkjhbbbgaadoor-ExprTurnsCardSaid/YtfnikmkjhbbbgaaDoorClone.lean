/- slices.Clone at the nodes of expressions: the plain function it computes; no conditions. -/
import Derived.Test.YtfnikmkjhbbbgaaDoorHExprx0
import Derived.Lib.SliceRun
set_option linter.unusedVariables false
set_option linter.unusedSimpArgs false
namespace Go.Proofs.YtfnikmkjhbbbgaaDoor.HExpr
open Go.RowKit Go.Proofs.YtfnikmkjhbbbgaaDoorW.PrintWords Go.Proofs.YtfnikmkjhbbbgaaDoorW.PrintLast Go.Proofs.YtfnikmkjhbbbgaaDoorW.PrintMore
def expr_Node.f (l0 : List (S51)) : Option ((List (S51))) := if l0.length < 3518437208883 then some l0 else none
set_option maxHeartbeats 8000000 in
set_option maxRecDepth 100000 in
theorem expr_Node.calls (A0 : Option Addr) (c0 : Nat) (l0 : List (S51)) (r : List (S51)) (w : World) (hr0 : Kd.C k51 w A0 l0.length l0) (hc0 : l0.length ≤ c0) (h : expr_Node.f l0 = some r) :
    Calls Tryd.prog 30 #[.slice A0 l0.length c0] w fun e w' => ∃ v0_ : Value, e = .returned (v0_) ∧ Kd.R k51 51 w' w.heap.size (fun _ => True) v0_ r ∧ Below w.heap.size w w' := by
  have HR0 := Aside0.mk hr0
  have HB := Aside0.mk (Below.refl w.heap.size w)
  unfold expr_Node.f at h
  by_cases c3 : l0.length < 3518437208883
  · rw [if_pos c3] at h
    obtain rfl := Option.some.inj h
    clear h
    have LM := Aside0.mk c3
    clear c3
    have hu22 := Tryd.underlying22
    cases A0 with
    | none =>
      have hl : l0 = [] := by
        by_cases h0 : l0.length = 0
        · exact List.length_eq_zero_iff.1 h0
        · obtain ⟨ad, e, _⟩ := hr0.2.2 (by omega); cases e
      subst hl
      have hq : ∀ W : World, (binOp .eql 22 (.slice none 0 c0) (.slice none 0 0)).run Tryd.prog W = .ok (.bool true) W := fun W => Go.Lib.run_eql_slice_nil W 22 51 none 0 c0 0 0 hu22
      go_enter Tryd.func30, Tryd.ntmps30
      go_wp2_with fail
      go_ret
      exact ⟨_, rfl, Kd.R_nil _ _ _ _ _, HB.out⟩
    | some ad =>
      clear hr0
      have hq : ∀ W : World, (binOp .eql 22 (.slice (some ad) l0.length c0) (.slice none 0 0)).run Tryd.prog W = .ok (.bool false) W := fun W => Go.Lib.run_eql_slice_nil W 22 51 (some ad) l0.length c0 0 0 hu22
      go_enter Tryd.func30, Tryd.ntmps30
      go_wp2_with (first | ((with_reducible refine gate_dst (N := 5) rfl ?_); refine Kd.R_lit k51 _ 51 ?hg (N := 5) ?hd (xs := ([] : List (S51))) (inner := []) (ok := fun _ => True) (okp := fun _ => True) ?hr ?hp (fun _ hk => hk) trivial (Below.refl _ _) (Nat.le_refl _) (by simp) ?_; (case hd => rfl); (case hg => rfl); (case hr => first | (go_simp; done) | (go_simp; rfl)); (case hp => exact (Reps.none _ _)); intro v121 w2 ho3 hb hg_ hnew_; clear hg_ hnew_; have HO := Aside0.mk (Kd.R_lower ho3 (Nat.le_refl _)); have HB2 := Aside0.mk (below_step HB.out hb); have HR2 := Aside0.mk (Kd.C_below HR0.out hb); clear HB HR0; clear ho3 hb) | ((with_reducible refine gate_builtin (b := .append) (xs := #[.tmp 5, .tmp 6]) rfl ?_); at_builtin; refine Kd.R_append_rows k51 (Rr := k51.K w2) (w0 := w) w.heap.size rfl (.tmp 5) (.tmp 6) 22 51 (.agg #[(.int .i64 0), (.string ⟨#[]⟩), (.int .i64 0), (.int .i64 0)]) 40 rfl Tryd.underlying22 info51 rfl (by decide) (by omega) v121 [] l0 (some ad) l0.length c0 (fun _ => True) (fun _ => False) rfl rfl ?aO ?aR ?aK (fun _ h => h.elim) (fun _ _ => trivial) ?aB ?aS ?aL ?_; (case aO => exact HO.out); (case aR => exact HR2.out); (case aB => exact HB2.out); (case aS => exact below_size HB2.out); (case aL => have := LM.out; simp only [List.length_nil]; omega); (case aK => (intro x cs hx; obtain rfl := k51_open hx; exact k51_mkM _ _ _ _)); intro v1 w1 h1 h2 h3 h4; have HO3 := Aside0.mk h1; have HB3 := Aside0.mk h2; clear h1 h2 h3 h4 HO HB2))
      go_ret
      exact ⟨_, rfl, HO3.out, HB3.out⟩
  · rw [if_neg c3] at h; cases h
end Go.Proofs.YtfnikmkjhbbbgaaDoor.HExpr
