/- RewriteExact answers true for every input: the plain law; no conditions beyond the row's own. -/
import Derived.Test.YtggeahplncijbaaHRewriteExactFin
set_option linter.unusedVariables false
set_option linter.unusedSimpArgs false
namespace Go.Proofs.Ytggeahplncijbaa.Pure
open Go.RowKit Go.Proofs.Ytggeahplncijbaa.HRewriteExact Go.Proofs.YtggeahplncijbaaW.PrintWords Go.Proofs.YtggeahplncijbaaW.PrintLast Go.Proofs.YtggeahplncijbaaW.PrintMore

theorem RewriteExact : ∀ (a0_0 : ByteArray) (a0_1 : ByteArray) (l0_2 : List (S142)) (l0_3 : List (S33)) (l0_4 : List (S29)) (l0_5 : List (S62)) (a1_0 : ByteArray) (a1_1 : ByteArray) (a2_0 : ByteArray) (a2_1 : ByteArray) (a3_0 : ByteArray) (a3_1 : ByteArray) (a4 : Bool), ((a0_0.size ≤ 140737488351232) ∧ (a0_1.size ≤ 140737488351232) ∧ ((l0_2.length ≤ maxLen ∧ l0_2.length * 40 ≤ 140737488351232 ∧ ∀ x0 ∈ l0_2, ((x0.f0.f0.size ≤ 140737488351232) ∧ (x0.f0.f1.size ≤ 140737488351232)) ∧ (True))) ∧ ((l0_3.length ≤ maxLen ∧ l0_3.length * 64 ≤ 140737488351232 ∧ ∀ x0 ∈ l0_3, ((x0.f0.f0.size ≤ 140737488351232) ∧ (x0.f0.f1.size ≤ 140737488351232)) ∧ ((x0.f1.f0.size ≤ 140737488351232) ∧ (x0.f1.f1.size ≤ 140737488351232)))) ∧ ((l0_4.length ≤ maxLen ∧ l0_4.length * 32 ≤ 140737488351232 ∧ ∀ x0 ∈ l0_4, (x0.f0.size ≤ 140737488351232) ∧ (x0.f1.size ≤ 140737488351232))) ∧ ((l0_5.length ≤ maxLen ∧ l0_5.length * 48 ≤ 140737488351232 ∧ ∀ x0 ∈ l0_5, (x0.f0.size ≤ 140737488351232) ∧ (x0.f1.size ≤ 140737488351232) ∧ (x0.f2.size ≤ 140737488351232)))) → ((a1_0.size ≤ 140737488351232) ∧ (a1_1.size ≤ 140737488351232)) → ((a2_0.size ≤ 140737488351232) ∧ (a2_1.size ≤ 140737488351232)) → ((a3_0.size ≤ 140737488351232) ∧ (a3_1.size ≤ 140737488351232)) → (True) → graftbedlaw08_RewriteExact.f a0_0 a0_1 l0_2 l0_3 l0_4 l0_5 a1_0 a1_1 a2_0 a2_1 a3_0 a3_1 a4 = some true := by
  intro a0_0 a0_1 l0_2 l0_3 l0_4 l0_5 a1_0 a1_1 a2_0 a2_1 a3_0 a3_1 a4 h0 h1 h2 h3 h4
  exact if_pos ⟨h1.1, h1.2, h2.1, h2.2, h3.1, h3.2⟩

end Go.Proofs.Ytggeahplncijbaa.Pure
