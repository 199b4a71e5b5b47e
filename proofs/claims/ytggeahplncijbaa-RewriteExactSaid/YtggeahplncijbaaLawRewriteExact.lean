/- The row of the law RewriteExact: for every input it answers true, and each argument reads as before; out of the plain statement (Pure) and the contracts; no conditions beyond the row's own. -/
import Derived.Test.YtggeahplncijbaaRows
import Derived.Test.YtggeahplncijbaaHRewriteExactFin
import Derived.Test.YtggeahplncijbaaOpen
import Derived.Test.YtggeahplncijbaaPureRewriteExact
import Derived.WalkKit
import Derived.ProofKit
import Derived.OpenShut
import Derived.ShutString
import Derived.ChangeOld
import Derived.Below
import Derived.SizedLaws
set_option linter.unusedVariables false
set_option linter.unusedSimpArgs false
namespace Go.Proofs.Ytggeahplncijbaa.rewriteExact
open Go.ChangeShapes Go.WideShapes Go.ChangeAt Go.RowKit Go.Proofs.Ytggeahplncijbaa.HRewriteExact Go.Proofs.YtggeahplncijbaaW.PrintWords Go.Proofs.Ytggeahplncijbaa.Opn
open Go.ChangeMaps (open_string shut_string)
theorem own : ownKnob Try.prog.godebug = none := by kernel_rfl
theorem laidOut : laidOutB Try.prog = true := by kernel_rfl
set_option maxRecDepth 100000 in
theorem lifted (os : Os) (started : os.Started) (H : Type) (enc : TypeId × Value → H) :
    ReturnsInHanded {} Try.checked os 3 .any (Rows.rewriteExactSpec.pre6 enc Try.prog Try.f3 Rows.rewriteExactRow.domain false) (Rows.rewriteExactSpec.post enc Try.prog Try.f3 false true false false) := by
  refine returnsInHanded_of_change_sized (C := Try.checked) own started (by kernel_rfl) Try.func3
    (ChangeSpec.witness6 (enc := enc) (C := Try.checked) false ⟨#[], #[.agg #[.string ByteArray.empty, .string ByteArray.empty, .slice none 0 0, .slice none 0 0, .slice none 0 0, .slice none 0 0], .agg #[.string ByteArray.empty, .string ByteArray.empty], .agg #[.string ByteArray.empty, .string ByteArray.empty], .agg #[.string ByteArray.empty, .string ByteArray.empty], .bool false], []⟩ 8 (by kernel_rfl) (by kernel_rfl) (by kernel_rfl) (by kernel_rfl)) ?_
  intro W base args ds gs before hval0 hW hcnd hsz0 _
  have hsz : (DataW.weightsEach Try.prog (Try.f3.params.toList ++ Rows.rewriteExactSpec.plain.varTypes Try.prog) (ds ++ gs)).all (· ≤ reachBytes) = true := hsz0
  have hval : ∀ (j : Nat) t v, Try.f3.params[j]? = some t → args[j]? = some v → Value.okWide Try.prog W .any base t v := hval0
  have hW' := hW
  obtain ⟨p, q, hA0, hV, rfl, hfz, hnd⟩ := hW
  have hA : DataW.TrodAll enc Try.prog W 0 (fun _ => true) true Try.f3.params.toList args.toList ds p := hA0
  rw [Try.params3] at hA hval hsz
  obtain ⟨v0, vs0, d0, ds0, p0, q0, hargs, rfl, rfl, h0, r0⟩ := trodAll_cons hA
  obtain ⟨v1, vs1, d1, ds1, p1, q1, rfl, rfl, rfl, h1, r1⟩ := trodAll_cons r0
  obtain ⟨v2, vs2, d2, ds2, p2, q2, rfl, rfl, rfl, h2, r2⟩ := trodAll_cons r1
  obtain ⟨v3, vs3, d3, ds3, p3, q3, rfl, rfl, rfl, h3, r3⟩ := trodAll_cons r2
  obtain ⟨v4, vs4, d4, ds4, p4, q4, rfl, rfl, rfl, h4, r4⟩ := trodAll_cons r3
  obtain ⟨rfl, rfl, rfl⟩ := trodAll_nil r4
  obtain rfl : args = #[v0, v1, v2, v3, v4] := by cases args; simp_all
  obtain ⟨rfl, rfl⟩ := trodVars_none hV
  have k0 := h0
  have lt0 : ∀ x ∈ p0, x.block < W.heap.size := by obtain ⟨m, hm⟩ := k0; exact DataW.trod_lt m _ _ _ hm
  obtain ⟨fuel0, hf0⟩ := h0
  obtain ⟨cs0, rfl, _⟩ := okWide_struct Try.underlying27 (hval 0 27 v0 rfl rfl)
  obtain ⟨⟨a0_0, a0_1, l0_2, l0_3, l0_4, l0_5⟩, ok0, K0⟩ := (Rd.struct Try.underlying27 (by kernel_rfl) (RdF.cons rfl rfl (Rd.string Try.underlying9 (by kernel_rfl)) (RdF.cons rfl rfl (Rd.string Try.underlying9 (by kernel_rfl)) (RdF.cons rfl rfl (Rd.slice (B := 40) Try.underlying22 (by kernel_rfl) (by kernel_rfl) ((Rd.iso (fun p_ => ⟨p_.1, p_.2⟩) (fun _ => rfl) (Rd.struct Try.underlying142 (by kernel_rfl) (RdF.cons rfl rfl ((Rd.iso (fun p_ => ⟨p_.1, p_.2⟩) (fun _ => rfl) (Rd.struct Try.underlying29 (by kernel_rfl) (RdF.cons rfl rfl (Rd.string Try.underlying9 (by kernel_rfl)) (RdF.last rfl (Rd.string Try.underlying9 (by kernel_rfl))))) : Rd Try.prog 29 k29 _)) (RdF.last rfl (Rd.bool Try.underlying4 (by kernel_rfl))))) : Rd Try.prog 142 k142 _))) (RdF.cons rfl rfl (Rd.slice (B := 64) Try.underlying23 (by kernel_rfl) (by kernel_rfl) ((Rd.iso (fun p_ => ⟨p_.1, p_.2⟩) (fun _ => rfl) (Rd.struct Try.underlying33 (by kernel_rfl) (RdF.cons rfl rfl ((Rd.iso (fun p_ => ⟨p_.1, p_.2⟩) (fun _ => rfl) (Rd.struct Try.underlying29 (by kernel_rfl) (RdF.cons rfl rfl (Rd.string Try.underlying9 (by kernel_rfl)) (RdF.last rfl (Rd.string Try.underlying9 (by kernel_rfl))))) : Rd Try.prog 29 k29 _)) (RdF.last rfl ((Rd.iso (fun p_ => ⟨p_.1, p_.2⟩) (fun _ => rfl) (Rd.struct Try.underlying29 (by kernel_rfl) (RdF.cons rfl rfl (Rd.string Try.underlying9 (by kernel_rfl)) (RdF.last rfl (Rd.string Try.underlying9 (by kernel_rfl))))) : Rd Try.prog 29 k29 _))))) : Rd Try.prog 33 k33 _))) (RdF.cons rfl rfl (Rd.slice (B := 32) Try.underlying24 (by kernel_rfl) (by kernel_rfl) ((Rd.iso (fun p_ => ⟨p_.1, p_.2⟩) (fun _ => rfl) (Rd.struct Try.underlying29 (by kernel_rfl) (RdF.cons rfl rfl (Rd.string Try.underlying9 (by kernel_rfl)) (RdF.last rfl (Rd.string Try.underlying9 (by kernel_rfl))))) : Rd Try.prog 29 k29 _))) (RdF.last rfl (Rd.slice (B := 48) Try.underlying25 (by kernel_rfl) (by kernel_rfl) ((Rd.iso (fun p_ => ⟨p_.1, p_.2.1, p_.2.2⟩) (fun _ => rfl) (Rd.struct Try.underlying62 (by kernel_rfl) (RdF.cons rfl rfl (Rd.string Try.underlying9 (by kernel_rfl)) (RdF.cons rfl rfl (Rd.string Try.underlying9 (by kernel_rfl)) (RdF.last rfl (Rd.string Try.underlying9 (by kernel_rfl)))))) : Rd Try.prog 62 k62 _)))))))))).read hf0 (sized_of hsz (j := 0) rfl rfl)
  obtain ⟨_, _, hcs0, rfl, ⟨_, _, rfl, rfl, ⟨_, _, rfl, ⟨A0_2, c0_2, rfl, hc0_2, hr0_2⟩, ⟨_, _, rfl, ⟨A0_3, c0_3, rfl, hc0_3, hr0_3⟩, ⟨_, _, rfl, ⟨A0_4, c0_4, rfl, hc0_4, hr0_4⟩, ⟨A0_5, c0_5, rfl, hc0_5, hr0_5⟩⟩⟩⟩⟩⟩ := K0
  obtain rfl : cs0 = #[.string a0_0, .string a0_1, .slice A0_2 l0_2.length c0_2, .slice A0_3 l0_3.length c0_3, .slice A0_4 l0_4.length c0_4, .slice A0_5 l0_5.length c0_5] := Array.toList_inj.1 (hcs0.trans rfl)
  have k1 := h1
  have lt1 : ∀ x ∈ p1, x.block < W.heap.size := by obtain ⟨m, hm⟩ := k1; exact DataW.trod_lt m _ _ _ hm
  obtain ⟨fuel1, hf1⟩ := h1
  obtain ⟨cs1, rfl, _⟩ := okWide_struct Try.underlying29 (hval 1 29 v1 rfl rfl)
  obtain ⟨⟨a1_0, a1_1⟩, ok1, K1⟩ := (Rd.struct Try.underlying29 (by kernel_rfl) (RdF.cons rfl rfl (Rd.string Try.underlying9 (by kernel_rfl)) (RdF.last rfl (Rd.string Try.underlying9 (by kernel_rfl))))).read hf1 (sized_of hsz (j := 1) rfl rfl)
  obtain ⟨_, _, hcs1, rfl, rfl⟩ := K1
  obtain rfl : cs1 = #[.string a1_0, .string a1_1] := Array.toList_inj.1 (hcs1.trans rfl)
  have k2 := h2
  have lt2 : ∀ x ∈ p2, x.block < W.heap.size := by obtain ⟨m, hm⟩ := k2; exact DataW.trod_lt m _ _ _ hm
  obtain ⟨fuel2, hf2⟩ := h2
  obtain ⟨cs2, rfl, _⟩ := okWide_struct Try.underlying29 (hval 2 29 v2 rfl rfl)
  obtain ⟨⟨a2_0, a2_1⟩, ok2, K2⟩ := (Rd.struct Try.underlying29 (by kernel_rfl) (RdF.cons rfl rfl (Rd.string Try.underlying9 (by kernel_rfl)) (RdF.last rfl (Rd.string Try.underlying9 (by kernel_rfl))))).read hf2 (sized_of hsz (j := 2) rfl rfl)
  obtain ⟨_, _, hcs2, rfl, rfl⟩ := K2
  obtain rfl : cs2 = #[.string a2_0, .string a2_1] := Array.toList_inj.1 (hcs2.trans rfl)
  have k3 := h3
  have lt3 : ∀ x ∈ p3, x.block < W.heap.size := by obtain ⟨m, hm⟩ := k3; exact DataW.trod_lt m _ _ _ hm
  obtain ⟨fuel3, hf3⟩ := h3
  obtain ⟨cs3, rfl, _⟩ := okWide_struct Try.underlying29 (hval 3 29 v3 rfl rfl)
  obtain ⟨⟨a3_0, a3_1⟩, ok3, K3⟩ := (Rd.struct Try.underlying29 (by kernel_rfl) (RdF.cons rfl rfl (Rd.string Try.underlying9 (by kernel_rfl)) (RdF.last rfl (Rd.string Try.underlying9 (by kernel_rfl))))).read hf3 (sized_of hsz (j := 3) rfl rfl)
  obtain ⟨_, _, hcs3, rfl, rfl⟩ := K3
  obtain rfl : cs3 = #[.string a3_0, .string a3_1] := Array.toList_inj.1 (hcs3.trans rfl)
  have k4 := h4
  have lt4 : ∀ x ∈ p4, x.block < W.heap.size := by obtain ⟨m, hm⟩ := k4; exact DataW.trod_lt m _ _ _ hm
  obtain ⟨fuel4, hf4⟩ := h4
  obtain ⟨a4, rfl, rfl, rfl⟩ := open_bool Try.underlying4 (hval 4 4 v4 rfl rfl) k4
  have ok4 : True := trivial
  have hP := Pure.RewriteExact a0_0 a0_1 l0_2 l0_3 l0_4 l0_5 a1_0 a1_1 a2_0 a2_1 a3_0 a3_1 a4 ok0 ok1 ok2 ok3 ok4
  clear hA0 hval0 hsz0 hsz
  refine (graftbedlaw08_RewriteExact.calls a0_0 a0_1 A0_2 c0_2 l0_2 A0_3 c0_3 l0_3 A0_4 c0_4 l0_4 A0_5 c0_5 l0_5 a1_0 a1_1 a2_0 a2_1 a3_0 a3_1 a4 true W hr0_2 hc0_2 hr0_3 hc0_3 hr0_4 hc0_4 hr0_5 hc0_5 hP).mono fun e W' ⟨he, bel⟩ => ?_
  subst he
  exact ⟨_, rfl, _, _, _, [], _, [], hW', trodAll_mk1 (shut_bool Try.underlying4 _), (trodAll_cons_mk (Below.trod laidOut (by kernel_rfl) (of_decide_eq_true (by kernel_rfl)) k0 bel lt0) (trodAll_cons_mk (Below.trod laidOut (by kernel_rfl) (of_decide_eq_true (by kernel_rfl)) k1 bel lt1) (trodAll_cons_mk (Below.trod laidOut (by kernel_rfl) (of_decide_eq_true (by kernel_rfl)) k2 bel lt2) (trodAll_cons_mk (Below.trod laidOut (by kernel_rfl) (of_decide_eq_true (by kernel_rfl)) k3 bel lt3) (trodAll_cons_mk (Below.trod laidOut (by kernel_rfl) (of_decide_eq_true (by kernel_rfl)) k4 bel lt4) trodAll_mk0))))), rfl, bel.frame _, fun h => by cases h⟩
theorem over : Rows.rewriteExactRow.holds Try.pinned (OpenSpec.ofChange Rows.rewriteExactSpec) :=
  OpenClaim.holds_of_wide 3 Try.f3 rfl rfl rfl rfl rfl rfl rfl ⟨rfl, rfl, rfl, rfl, rfl⟩ rfl rfl rfl rfl rfl (by kernel_rfl) Try.func3 (by kernel_rfl)
    (of_decide_eq_true (by kernel_rfl)) (by unfold Func.isWrapper; first | (rw [if_pos (by decide +kernel)]; kernel_rfl) | (rw [if_neg (by decide +kernel)]; exact ⟨rfl, rfl⟩))
    (fun os started H enc _ => lifted os started H enc)
theorem proved : Rows.RewriteExactSaid := over
#print axioms proved
end Go.Proofs.Ytggeahplncijbaa.rewriteExact
namespace Go.Proofs.Ytggeahplncijbaa
/-- The row, under a short name, for the claim. -/
theorem rewriteExact_holds : Rows.RewriteExactSaid := rewriteExact.proved
end Go.Proofs.Ytggeahplncijbaa
