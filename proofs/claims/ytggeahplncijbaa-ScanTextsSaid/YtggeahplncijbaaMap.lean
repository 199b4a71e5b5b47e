/- Runs of a map's literal and its look-up: the literal of scan.escape; no conditions. -/
import Derived.Test.YtggeahplncijbaaValue
import Derived.MapKept
import Derived.WideMake
set_option linter.unusedVariables false
set_option linter.unusedSimpArgs false
namespace Go.Proofs.Ytggeahplncijbaa.Val
open Go.RowKit
theorem set_alloc (w : World) (o o' : Obj) : ({ w.alloc o with heap := (w.alloc o).heap.setIfInBounds w.heap.size o' } : World) = w.alloc o' := by
  have e : ∀ o, (w.alloc o).heap = w.heap.push o := fun _ => rfl
  have h : (w.alloc o).heap.setIfInBounds w.heap.size o' = (w.alloc o').heap := by
    rw [e, e]
    apply Array.ext_getElem?
    intro i
    by_cases hi : i = w.heap.size
    · subst hi; simp
    · simp [Array.getElem?_setIfInBounds, Array.getElem?_push, Ne.symm hi, hi]
  rw [h]
  rfl
theorem upd_run (w : World) (es : Array MapEntry) (cl : Nat) (k v : Int) (hf : Instr.findNow (.int .u8) (.int .u8 k) es.toList 0 = some none) :
    (Instr.mapUpdate 90 (.map (some w.heap.size)) (.int .u8 k) (.int .i64 v)).run Try.prog (w.alloc (.map es cl)) = .ok () (w.alloc (.map (es.push { key := .int .u8 k, val := .int .i64 v, born := cl }) (cl + 1))) := by
  have hb : (w.alloc (.map es cl)).heap[w.heap.size]? = some (.map es cl) := (MapKept.heap_alloc w _).1
  have hc : (Instr.checkKey false 10000 5 (.int .u8 k)).run Try.prog (w.alloc (.map es cl)) = .ok () (w.alloc (.map es cl)) := MapKept.run_checkKey (k := .int .u8 k) Try.underlying5 (by simp [MapKept.IsKey]) false 9999
  have hs := set_alloc w (.map es cl) (.map (es.push { key := .int .u8 k, val := .int .i64 v, born := cl }) (cl + 1))
  simp [Instr.mapUpdate, run_underlying Try.underlying90, MapKept.run_getObj_map hb, hc, MapKept.run_findKey Try.underlying5 hf, MapKept.run_setObj_map _ hb, Result.andThen]
  exact hs
theorem look_run (w : World) (es : Array MapEntry) (cl : Nat) (k v : Int) (hf : (∃ i, Instr.findNow (.int .u8) (.int .u8 k) es.toList 0 = some (some (i, .int .i64 v))) ∨ Instr.findNow (.int .u8) (.int .u8 k) es.toList 0 = some none ∧ v = 0) :
    (Instr.lookup 90 (.map (some w.heap.size)) (.int .u8 k) false).run Try.prog (w.alloc (.map es cl)) = .ok (.int .i64 v) (w.alloc (.map es cl)) := by
  have hb : (w.alloc (.map es cl)).heap[w.heap.size]? = some (.map es cl) := (MapKept.heap_alloc w _).1
  have hc : (Instr.checkKey es.isEmpty 10000 5 (.int .u8 k)).run Try.prog (w.alloc (.map es cl)) = .ok () (w.alloc (.map es cl)) := MapKept.run_checkKey (k := .int .u8 k) Try.underlying5 (by simp [MapKept.IsKey]) _ 9999
  rcases hf with ⟨i, hf⟩ | ⟨hf, rfl⟩
  · simp [Instr.lookup, run_underlying Try.underlying90, MapKept.run_getObj_map hb, hc, MapKept.run_findKey Try.underlying5 hf, Result.andThen]
  · have hz : (zeroValue 3).run Try.prog (w.alloc (.map es cl)) = .ok (.int .i64 0) (w.alloc (.map es cl)) := Try.zeroValue3 _
    simp [Instr.lookup, run_underlying Try.underlying90, MapKept.run_getObj_map hb, hc, MapKept.run_findKey Try.underlying5 hf, Result.andThen, hz]
/-- How many digits follow. -/
def manyOf (c : Int) : Int := if c = 120 then 2 else if c = 117 then 4 else if c = 85 then 8 else 0
def mapEs : Array MapEntry := #[{ key := .int .u8 120, val := .int .i64 2, born := 0 }, { key := .int .u8 117, val := .int .i64 4, born := 1 }, { key := .int .u8 85, val := .int .i64 8, born := 2 }]
theorem look_many (w : World) (c : Int) :
    (Instr.lookup 90 (.map (some w.heap.size)) (.int .u8 c) false).run Try.prog (w.alloc (.map mapEs 3)) = .ok (.int .i64 (manyOf c)) (w.alloc (.map mapEs 3)) := by
  refine look_run w mapEs 3 c (manyOf c) ?_
  unfold manyOf mapEs
  by_cases h0 : c = 120
  · subst h0; exact .inl ⟨0, rfl⟩
  · by_cases h1 : c = 117
    · subst h1; exact .inl ⟨1, rfl⟩
    · by_cases h2 : c = 85
      · subst h2; exact .inl ⟨2, rfl⟩
      · refine .inr ⟨?_, by simp [h0, h1, h2]⟩
        have a0 : (c == 120) = false := beq_eq_false_iff_ne.2 h0
        have a1 : (c == 117) = false := beq_eq_false_iff_ne.2 h1
        have a2 : (c == 85) = false := beq_eq_false_iff_ne.2 h2
        simp [Instr.findNow, Instr.sameNow, a0, a1, a2]
theorem upd0 (w : World) : (Instr.mapUpdate 90 (.map (some w.heap.size)) (.int .u8 120) (.int .i64 2)).run Try.prog (w.alloc (.map #[] 0)) = .ok () (w.alloc (.map #[{ key := .int .u8 120, val := .int .i64 2, born := 0 }] 1)) := upd_run w #[] 0 120 2 rfl
theorem upd1 (w : World) : (Instr.mapUpdate 90 (.map (some w.heap.size)) (.int .u8 117) (.int .i64 4)).run Try.prog (w.alloc (.map #[{ key := .int .u8 120, val := .int .i64 2, born := 0 }] 1)) = .ok () (w.alloc (.map #[{ key := .int .u8 120, val := .int .i64 2, born := 0 }, { key := .int .u8 117, val := .int .i64 4, born := 1 }] 2)) := upd_run w _ 1 117 4 rfl
theorem upd2 (w : World) : (Instr.mapUpdate 90 (.map (some w.heap.size)) (.int .u8 85) (.int .i64 8)).run Try.prog (w.alloc (.map #[{ key := .int .u8 120, val := .int .i64 2, born := 0 }, { key := .int .u8 117, val := .int .i64 4, born := 1 }] 2)) = .ok () (w.alloc (.map mapEs 3)) := upd_run w _ 2 85 8 rfl
end Go.Proofs.Ytggeahplncijbaa.Val
