/- RewriteExact in the form that the row takes: it answers true; no conditions beyond the row's own. -/
import Derived.Test.YtggeahplncijbaaHRewriteExactLaw
set_option linter.unusedVariables false
set_option linter.unusedSimpArgs false
namespace Go.Proofs.Ytggeahplncijbaa.HRewriteExact
open Go.RowKit Go.Proofs.YtggeahplncijbaaW.PrintWords Go.Proofs.YtggeahplncijbaaW.PrintLast Go.Proofs.YtggeahplncijbaaW.PrintMore
def graftbedlaw08_RewriteExact.f (a0_0 : ByteArray) (a0_1 : ByteArray) (l0_2 : List (S142)) (l0_3 : List (S33)) (l0_4 : List (S29)) (l0_5 : List (S62)) (a1_0 : ByteArray) (a1_1 : ByteArray) (a2_0 : ByteArray) (a2_1 : ByteArray) (a3_0 : ByteArray) (a3_1 : ByteArray) (a4 : Bool) : Option Bool :=
  if a1_0.size ≤ 140737488351232 ∧ a1_1.size ≤ 140737488351232 ∧ a2_0.size ≤ 140737488351232 ∧ a2_1.size ≤ 140737488351232 ∧ a3_0.size ≤ 140737488351232 ∧ a3_1.size ≤ 140737488351232 then some true else none
theorem graftbedlaw08_RewriteExact.calls (a0_0 : ByteArray) (a0_1 : ByteArray) (A0_2 : Option Addr) (c0_2 : Nat) (l0_2 : List (S142)) (A0_3 : Option Addr) (c0_3 : Nat) (l0_3 : List (S33)) (A0_4 : Option Addr) (c0_4 : Nat) (l0_4 : List (S29)) (A0_5 : Option Addr) (c0_5 : Nat) (l0_5 : List (S62)) (a1_0 : ByteArray) (a1_1 : ByteArray) (a2_0 : ByteArray) (a2_1 : ByteArray) (a3_0 : ByteArray) (a3_1 : ByteArray) (a4 : Bool) (r : Bool) (w : World)
    (hr0_2 : Kd.C k142 w A0_2 l0_2.length l0_2) (hc0_2 : l0_2.length ≤ c0_2) (hr0_3 : Kd.C k33 w A0_3 l0_3.length l0_3) (hc0_3 : l0_3.length ≤ c0_3) (hr0_4 : Kd.C k29 w A0_4 l0_4.length l0_4) (hc0_4 : l0_4.length ≤ c0_4) (hr0_5 : Kd.C k62 w A0_5 l0_5.length l0_5) (hc0_5 : l0_5.length ≤ c0_5)
    (h : graftbedlaw08_RewriteExact.f a0_0 a0_1 l0_2 l0_3 l0_4 l0_5 a1_0 a1_1 a2_0 a2_1 a3_0 a3_1 a4 = some r) :
    Calls Try.prog 3 #[.agg #[.string a0_0, .string a0_1, .slice A0_2 l0_2.length c0_2, .slice A0_3 l0_3.length c0_3, .slice A0_4 l0_4.length c0_4, .slice A0_5 l0_5.length c0_5], .agg #[.string a1_0, .string a1_1], .agg #[.string a2_0, .string a2_1], .agg #[.string a3_0, .string a3_1], .bool a4] w fun e w' => e = .returned (.bool r) ∧ Below w.heap.size w w' := by
  unfold graftbedlaw08_RewriteExact.f at h
  split at h
  · rename_i hs
    obtain rfl : true = r := Option.some.inj h
    exact exact_core a0_0 a0_1 A0_2 c0_2 l0_2 A0_3 c0_3 l0_3 A0_4 c0_4 l0_4 A0_5 c0_5 l0_5 a1_0 a1_1 a2_0 a2_1 a3_0 a3_1 a4 w hr0_2 hc0_2 hr0_3 hc0_3 hr0_4 hc0_4 hr0_5 hc0_5 hs.1 hs.2.1 hs.2.2.1 hs.2.2.2.1 hs.2.2.2.2.1 hs.2.2.2.2.2
  · cases h
end Go.Proofs.Ytggeahplncijbaa.HRewriteExact
