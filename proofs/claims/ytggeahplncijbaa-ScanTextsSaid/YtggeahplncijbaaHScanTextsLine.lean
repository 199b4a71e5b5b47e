/- A contract of scan.Line: it answers one more than how many line feeds stand among the first bytes; no conditions. -/
import Derived.Test.YtggeahplncijbaaHScanTextsx0
import Derived.Lib.Bytealg
set_option linter.unusedVariables false
set_option linter.unusedSimpArgs false
namespace Go.Proofs.Ytggeahplncijbaa.HScanTexts
open Go.RowKit Go.Proofs.YtggeahplncijbaaW.PrintWords Go.Proofs.YtggeahplncijbaaW.PrintLast Go.Proofs.YtggeahplncijbaaW.PrintMore
attribute [local go_sem] max2_int min2_int max_two min_two max_three min_three max_four min_four

set_option maxHeartbeats 1000000 in
set_option maxRecDepth 100000 in
theorem count_lf (s : ByteArray) (w : World) :
    Calls Try.prog 27 #[.string s, .string ⟨#[10]⟩] w fun e w' => e = .returned (.int .i64 (Lib.countByte s.data.toList 10)) ∧ Drawn0 w w' := by
  go_enter Try.func27, Try.ntmps27
  go_wp2
  rw [run_callFunc_extern Try.func37 (by kernel_rfl) (by kernel_rfl) (by kernel_rfl) (e := Extern.BytealgCount.count) (by kernel_rfl), Lib.run_countString]
  simp only [Result.andThen]
  rw [Oper.upon_value]
  go_wp2
  go_ret
  exact ⟨rfl, Drawn0.refl _⟩

/-- How many line feeds stand among the first bytes; one more. -/
def lineAt (s : ByteArray) (at_ : Int) : Int := 1 + (Lib.countByte (s.data.toList.take at_.toNat) 10 : Nat)
def scan_Line.f (a0 : ByteArray) (a1 : Int) : Option (Int) := some (wrap64 (lineAt a0 (mx 0 (mn a1 a0.size))))

set_option maxHeartbeats 1000000 in
set_option maxRecDepth 100000 in
theorem line_core (a0 : ByteArray) (a1 q p : Int) (w : World) (h1 : (if (a0.size : Int) < a1 then (a0.size : Int) else a1) = q) (h2 : (if 0 < q then q else 0) = p) (hp0 : 0 ≤ p) (hp1 : p ≤ a0.size) :
    Calls Try.prog 11 #[.string a0, .int .i64 a1] w fun e w' => e = .returned (.int .i64 (wrap64 (lineAt a0 p))) ∧ Drawn0 w w' := by
  go_enter Try.func11, Try.ntmps11
  go_wp2_with (go_at_call 27; refine (count_lf _ _).mono ?_; rintro e w' ⟨rfl, hd⟩; obtain ⟨n, rfl⟩ := hd.out)
  go_ret
  exact ⟨by simp [lineAt], ⟨⟨_, rfl⟩⟩⟩

theorem scan_Line.calls (a0 : ByteArray) (a1 : Int) (r : Int) (w : World) (h : scan_Line.f a0 a1 = some r) :
    Calls Try.prog 11 #[.string a0, .int .i64 a1] w fun e w' => e = .returned (.int .i64 r) ∧ Drawn0 w w' := by
  obtain rfl := Option.some.inj h
  exact line_core a0 a1 (mn a1 a0.size) (mx 0 (mn a1 a0.size)) w rfl rfl (by unfold mx; split <;> omega) (by unfold mx mn; split <;> split <;> omega)
end Go.Proofs.Ytggeahplncijbaa.HScanTexts
