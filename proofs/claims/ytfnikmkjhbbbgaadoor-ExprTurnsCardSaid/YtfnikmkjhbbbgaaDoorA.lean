/- The contract of the expression of one tag: the plain function it computes; no conditions. -/
import Derived.Test.YtfnikmkjhbbbgaaDoorParse
import Derived.Lib.SliceRun
set_option linter.unusedVariables false
set_option linter.unusedSimpArgs false
namespace Go.Proofs.YtfnikmkjhbbbgaaDoor.HExpr
open Go.RowKit Go.Proofs.YtfnikmkjhbbbgaaDoorW.PrintWords Go.Proofs.YtfnikmkjhbbbgaaDoorW.PrintLast Go.Proofs.YtfnikmkjhbbbgaaDoorW.PrintMore
/-- the node of the tag a -/
def aNode : S51 := ⟨0, ⟨#[97]⟩, 0, 0⟩
theorem parse_a : expr_Parse.f 3 ⟨#[97]⟩ = some ([aNode], 0) := by kernel_rfl
def graftbedlaw12_a.f  : Option ((List (S51))) := some [aNode]
set_option maxHeartbeats 8000000 in
set_option maxRecDepth 100000 in
theorem graftbedlaw12_a.calls  (r : List (S51)) (w : World) (h : graftbedlaw12_a.f  = some r) :
    Calls Tryd.prog 10 #[] w fun e w' => ∃ v0_ : Value, e = .returned (v0_) ∧ Kd.R k51 51 w' w.heap.size (fun _ => True) v0_ r ∧ Below w.heap.size w w' := by
  obtain rfl := Option.some.inj h
  clear h
  have HP := Aside0.mk (expr_Parse.calls 3 ⟨#[97]⟩ _ _ w parse_a)
  have HB := Aside0.mk (Below.refl w.heap.size w)
  go_enter Tryd.func10, Tryd.ntmps10
  go_wp2_with (go_at_call 17; refine HP.out.mono ?_; rintro e w1 ⟨v0, rfl, hr, hb⟩; have HR := Aside0.mk hr; have HB1 := Aside0.mk hb; clear hb; obtain ⟨A1, c1, e1⟩ := Kd.R_slice hr; subst e1; clear hr)
  go_ret
  exact ⟨_, rfl, HR.out, HB1.out⟩
/-- the row that a hands back is not nil -/
theorem a_opens {t : List S51} {v : Value} {w : World} {base : Nat} {ok : Nat → Prop} (h : graftbedlaw12_a.f = some t) (hr : Kd.R k51 51 w base ok v t) : ∃ g c, v = .slice (some ⟨g, 0, none⟩) t.length c := by
  obtain rfl := Option.some.inj h
  obtain ⟨g, c, e, _⟩ := Kd.R_form hr (by decide)
  exact ⟨g, c, e⟩
theorem nil_eq (g n c : Nat) (W : World) : (binOp .eql 22 (.slice (some ⟨g, 0, none⟩) n c) (.slice none 0 0)).run Tryd.prog W = .ok (.bool false) W := Go.Lib.run_eql_slice_nil W 22 51 _ n c 0 0 Tryd.underlying22
theorem nil_ne (g n c : Nat) (W : World) : (binOp .neq 22 (.slice (some ⟨g, 0, none⟩) n c) (.slice none 0 0)).run Tryd.prog W = .ok (.bool true) W := by
  have h := Tryd.underlying22
  simp [binOp, Op.equal, Op.maxDepth, Go.Lib.run_equalIn_slice_nil W 9999 22 51 _ n c 0 0 h]
end Go.Proofs.YtfnikmkjhbbbgaaDoor.HExpr
