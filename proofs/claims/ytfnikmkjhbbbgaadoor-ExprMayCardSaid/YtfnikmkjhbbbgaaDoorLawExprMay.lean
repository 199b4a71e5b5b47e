/- The row of the law ExprMay: for every input it answers true, and each argument reads as before; out of the plain statement (Pure) and the contracts; its tie and its card; no conditions beyond the row's own. -/
import Derived.Test.YtfnikmkjhbbbgaaDoorRows
import Derived.Test.YtfnikmkjhbbbgaaDoorHExprx5
import Derived.Test.YtfnikmkjhbbbgaaDoorOpen
import Derived.Test.YtfnikmkjhbbbgaaDoorPureExprMay
import Derived.WalkKit
import Derived.ProofKit
import Derived.OpenShut
import Derived.ShutString
import Derived.ChangeOld
import Derived.Below
import Derived.SizedLaws
import Derived.Lay
import Derived.LaidHandle
import Derived.MakeChecks
import Derived.SevenTiedAt
import Derived.Test.YtfnikmkjhbbbgaaDoorTie
import Derived.Test.YtfnikmkjhbbbgaaDoorCards
set_option linter.unusedVariables false
set_option linter.unusedSimpArgs false
namespace Go.Proofs.YtfnikmkjhbbbgaaDoor.exprMay
open Go.ChangeShapes Go.WideShapes Go.ChangeAt Go.RowKit Go.Proofs.YtfnikmkjhbbbgaaDoor.HExpr Go.Proofs.YtfnikmkjhbbbgaaDoorW.PrintWords Go.Proofs.YtfnikmkjhbbbgaaDoor.Opn
open Go.ChangeMaps (open_string shut_string)
theorem own : ownKnob Tryd.prog.godebug = none := by kernel_rfl
theorem laidOut : laidOutB Tryd.prog = true := by kernel_rfl
set_option maxRecDepth 100000 in
theorem lifted (os : Os) (started : os.Started) (H : Type) (enc : TypeId × Value → H) :
    ReturnsInHanded {} Tryd.checked os 3 .any (fun w args => (Rows.exprMaySpec.pre enc Tryd.prog Tryd.f3 Rows.exprMayRow.domain false w args ∧ laidMetH Tryd.prog Rows.exprMayRow.laid w) ∧ sizedMet enc Tryd.prog Tryd.f3 (OpenSpec.ofChange Rows.exprMaySpec) false w args) (Rows.exprMaySpec.post enc Tryd.prog Tryd.f3 false true false false) := by
  refine returnsInHanded_of_change_and (C := Tryd.checked) (X := fun w _ => laidMetH Tryd.prog Rows.exprMayRow.laid w) (fun _ _ _ hh h => h.of_heap hh) own started (by kernel_rfl) Tryd.func3
    (ChangeSpec.witness_shaped (enc := enc) (C := Tryd.checked) (os := os) (X := fun w _ => laidMetH Tryd.prog Rows.exprMayRow.laid w) false (World.laidAll Tryd.prog os Rows.exprMayRow.laid) #[.slice none 0 0, .slice none 0 0] 8 (World.laidAll_os _ _ _)
      (World.shaped_of_ZipB (by kernel_rfl) (by kernel_rfl)) (by kernel_rfl) (by kernel_rfl) (by kernel_rfl)
      (by rw [MakeChecks.laidMetH_plain _ _ _ (by kernel_rfl)]; exact laidMet_laidAll _ (by kernel_rfl) (by kernel_rfl))) ?_
  intro W base args ds gs before hval0 hW hcnd hsz0 hL _
  have hsz : (DataW.weightsEach Tryd.prog (Tryd.f3.params.toList ++ Rows.exprMaySpec.plain.varTypes Tryd.prog) (ds ++ gs)).all (· ≤ reachBytes) = true := hsz0
  have hval : ∀ (j : Nat) t v, Tryd.f3.params[j]? = some t → args[j]? = some v → Value.okWide Tryd.prog W .any base t v := hval0
  have hW' := hW
  obtain ⟨p, q, hA0, hV, rfl, hfz, hnd⟩ := hW
  have hA : DataW.TrodAll enc Tryd.prog W 0 (fun _ => true) true Tryd.f3.params.toList args.toList ds p := hA0
  rw [Tryd.params3] at hA hval hsz
  obtain ⟨v0, vs0, d0, ds0, p0, q0, hargs, rfl, rfl, h0, r0⟩ := trodAll_cons hA
  obtain ⟨v1, vs1, d1, ds1, p1, q1, rfl, rfl, rfl, h1, r1⟩ := trodAll_cons r0
  obtain ⟨rfl, rfl, rfl⟩ := trodAll_nil r1
  obtain rfl : args = #[v0, v1] := by cases args; simp_all
  obtain ⟨rfl, rfl⟩ := trodVars_none hV
  have k0 := h0
  have lt0 : ∀ x ∈ p0, x.block < W.heap.size := by obtain ⟨m, hm⟩ := k0; exact DataW.trod_lt m _ _ _ hm
  obtain ⟨fuel0, hf0⟩ := h0
  obtain ⟨A0, len0, c0, rfl⟩ := okWide_slice Tryd.underlying22 (hval 0 22 v0 rfl rfl)
  obtain ⟨l0, ok0, A0', c0', e0, hc0, hr0⟩ := (Rd.slice (B := 40) Tryd.underlying22 (by kernel_rfl) (by kernel_rfl) ((Rd.iso (fun p_ => ⟨p_.1, p_.2.1, p_.2.2.1, p_.2.2.2⟩) (fun _ => rfl) (Rd.struct Tryd.underlying51 (by kernel_rfl) (RdF.cons rfl rfl (Rd.int Tryd.underlying3 (by kernel_rfl)) (RdF.cons rfl rfl (Rd.string Tryd.underlying9 (by kernel_rfl)) (RdF.cons rfl rfl (Rd.int Tryd.underlying3 (by kernel_rfl)) (RdF.last rfl (Rd.int Tryd.underlying3 (by kernel_rfl))))))) : Rd Tryd.prog 51 k51 _))).read hf0 (sized_of hsz (j := 0) rfl rfl)
  simp only [Value.cells, List.cons.injEq, Value.slice.injEq, and_true] at e0
  obtain ⟨rfl, rfl, rfl⟩ := e0
  have k1 := h1
  have lt1 : ∀ x ∈ p1, x.block < W.heap.size := by obtain ⟨m, hm⟩ := k1; exact DataW.trod_lt m _ _ _ hm
  obtain ⟨fuel1, hf1⟩ := h1
  obtain ⟨A1, len1, c1, rfl⟩ := okWide_slice Tryd.underlying23 (hval 1 23 v1 rfl rfl)
  obtain ⟨l1, ok1, A1', c1', e1, hc1, hr1⟩ := (Rd.slice (B := 16) Tryd.underlying23 (by kernel_rfl) (by kernel_rfl) (Rd.string Tryd.underlying9 (by kernel_rfl))).read hf1 (sized_of hsz (j := 1) rfl rfl)
  simp only [Value.cells, List.cons.injEq, Value.slice.injEq, and_true] at e1
  obtain ⟨rfl, rfl, rfl⟩ := e1
  obtain ⟨k, hP⟩ := Pure.ExprMay l0 l1 ok0 ok1
  clear hA0 hval0 hsz0 hsz
  refine (graftbedlaw12_ExprMay.calls k A0 c0 l0 A1 c1 l1 true W hr0 hc0 hr1 hc1 hP).mono fun e W' ⟨he, bel⟩ => ?_
  subst he
  exact ⟨_, rfl, _, _, _, [], _, [], hW', trodAll_mk1 (shut_bool Tryd.underlying4 _), (trodAll_cons_mk (Below.trod laidOut (by kernel_rfl) (of_decide_eq_true (by kernel_rfl)) k0 bel lt0) (trodAll_cons_mk (Below.trod laidOut (by kernel_rfl) (of_decide_eq_true (by kernel_rfl)) k1 bel lt1) trodAll_mk0)), rfl, bel.frame _, fun h => by cases h⟩
theorem over : Rows.exprMayRow.holds Tryd.pinned (OpenSpec.ofChange Rows.exprMaySpec) :=
  OpenClaim.holds_of_wide 3 Tryd.f3 rfl rfl rfl rfl rfl rfl rfl ⟨rfl, rfl, rfl, rfl, rfl⟩ rfl rfl rfl rfl rfl (by kernel_rfl) Tryd.func3 (by kernel_rfl)
    (of_decide_eq_true (by kernel_rfl)) (by unfold Func.isWrapper; first | (rw [if_pos (by decide +kernel)]; kernel_rfl) | (rw [if_neg (by decide +kernel)]; exact ⟨rfl, rfl⟩))
    (fun os started H enc _ => lifted os started H enc)
theorem card_proved : Rows.ExprMayCardSaid :=
  Claim7.holds_tied_plain_at .later [] [.data, .pinned] true (true, "c00dc91c08a220be684ff75c473e6ae57ea48888e8a33876440ad9d1d26fe8be") false over (fun _ h => by cases h) (by kernel_rfl) (fun _ h => by cases h) exprMay_row_tie rfl ⟨rfl, rfl⟩ (by kernel_rfl) rfl
    (fun f fn hf hfn => by
      obtain rfl : f = 3 := Option.some.inj ((show Tryd.prog.funcNamed "graftbed/graftbedlaw12.ExprMay" = some 3 by kernel_rfl).symm.trans hf) |>.symm
      obtain rfl : fn = Tryd.f3 := (Option.some.inj (Tryd.func3.symm.trans hfn)).symm
      exact ⟨by kernel_rfl, fun j t ht => by
        rw [Tryd.params3] at ht
        have hm : t ∈ [22, 23] := by simpa using Array.mem_of_getElem? ht
        have hall : ([22, 23].all fun u => !Tryd.prog.wantsStandIn u) = true := by kernel_rfl
        exact (show Tryd.prog.wantsStandIn t = false by simpa using List.all_eq_true.1 hall t hm)⟩)
    (by kernel_rfl)
#print axioms card_proved
end Go.Proofs.YtfnikmkjhbbbgaaDoor.exprMay
namespace Go.Proofs.YtfnikmkjhbbbgaaDoor
/-- The tied card, under a short name, for the claim. -/
theorem exprMayCard_holds : Rows.ExprMayCardSaid := exprMay.card_proved
end Go.Proofs.YtfnikmkjhbbbgaaDoor
