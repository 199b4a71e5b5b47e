/- How an argument that reads as data is a Lean value of its kind: whole numbers, bools, strings, slices, structs; no conditions. -/
import Derived.Test.YtfnikmkjhbbbgaaDoorWWords
import Derived.Deep.Slices
import Derived.ChangeArms
import Derived.Deep.Fields
import Derived.SizedLaws
set_option linter.unusedVariables false
set_option linter.unusedSimpArgs false
namespace Go.Proofs.YtfnikmkjhbbbgaaDoor.Opn
open Go.Deep Go.Proofs.YtfnikmkjhbbbgaaDoorW.PrintWords

/-- What reads at type t, and is no greater than a row allows, is a value of the kind d, of which ok holds. -/
structure Rd (P : Program) (t : TypeId) {α : Type} (d : Kd α) (ok : α → Prop) : Prop where
  size : P.cellsOf t = d.sz
  read : ∀ {H : Type} {enc : TypeId × Value → H} {w : World} {base : Nat} {spare : Nat → Bool} {held : Bool} {fuel : Nat} {cs : List Value} {x : DataW H × List MemPlace},
    DataW.trod enc P w base spare held fuel t cs = some x → (∀ n ∈ x.1.weights P t, n ≤ 140737488351232) → ∃ a : α, ok a ∧ d.K w a cs
theorem Rd.int {P : Program} {t : TypeId} {k : IntKind} (ht : P.underlying t = some (.int k)) (hc : P.cellsOf t = 1) : Rd P t (Kd.int k) (fun a => (Lit.int k a).wf = true) :=
  ⟨hc, fun h _ => by
    obtain ⟨n, rfl, _, hw⟩ := DataW.trod_int ht h
    exact ⟨n, hw, rfl⟩⟩
theorem Rd.bool {P : Program} {t : TypeId} (ht : P.underlying t = some .bool) (hc : P.cellsOf t = 1) : Rd P t Kd.bool (fun _ => True) :=
  ⟨hc, fun h _ => by
    obtain ⟨b, rfl, _⟩ := DataW.trod_bool ht h
    exact ⟨b, trivial, rfl⟩⟩
theorem Rd.string {P : Program} {t : TypeId} (ht : P.underlying t = some .string) (hc : P.cellsOf t = 1) : Rd P t Kd.string (fun a => a.size ≤ 140737488351232) :=
  ⟨hc, fun h hw => by
    obtain ⟨s, rfl, rfl, hs⟩ := DataW.trod_string ht h
    have := hw s.data.toList.length (by simp [DataW.weights])
    rw [Array.length_toList] at this
    exact ⟨s, this, rfl⟩⟩
theorem weights_all {H : Type} {P : Program} {e : TypeId} : ∀ {l : List (DataW H)} {d : DataW H}, d ∈ l → ∀ n ∈ d.weights P e, n ∈ DataW.weightsAll P e l
  | y :: r, d, hd, n, hn => by
    simp only [DataW.weightsAll, List.mem_append]
    rcases List.mem_cons.1 hd with rfl | hd
    · exact .inl hn
    · exact .inr (weights_all hd n hn)
theorem Rd.slice {P : Program} {t e : TypeId} {α : Type} {d : Kd α} {ok : α → Prop} {B : Nat} (ht : P.underlying t = some (.slice e)) (hc : P.cellsOf t = 1) (hB : P.bytesOf e = B) (he : Rd P e d ok) :
    Rd P t (Kd.slice e d) (fun l => l.length ≤ maxLen ∧ l.length * B ≤ 140737488351232 ∧ ∀ x ∈ l, ok x) :=
  ⟨hc, fun {H enc w base spare held fuel cs x} h hw => by
    rcases open_slice ht h with ⟨rfl, _⟩ | ⟨a, len, cap, m, n, D, Pl, rfl, hb, hl, hm, hmm, rfl, hi⟩
    · exact ⟨[], ⟨Nat.zero_le _, by simp, fun x hx => by cases hx⟩, none, 0, rfl, Nat.le_refl _, rfl, Nat.zero_le _, fun h0 => absurd h0 (Nat.lt_irrefl 0)⟩
    · have hle : len ≤ m := by rw [hmm]; split <;> omega
      have hW : ∀ i, i < len → ∀ q ∈ (D i).weights P e, q ≤ 140737488351232 := fun i hil q hq => by
        refine hw q ?_
        simp only [DataW.weights, ht]
        refine List.mem_cons_of_mem _ (List.mem_append_left _ (weights_all (d := D i) ?_ q hq))
        exact List.mem_map.2 ⟨i, List.mem_range.2 hil, rfl⟩
      have hS : len * B ≤ 140737488351232 := by
        have := hw ((((List.range len).map D).length + ((List.range (m - len)).map fun j => D (len + j)).length) * P.bytesOf e) (by simp [DataW.weights, ht])
        rw [hB] at this
        simp only [List.length_map, List.length_range] at this
        exact Nat.le_trans (Nat.mul_le_mul_right _ (Nat.le_add_right _ _)) this
      have key : ∀ i : Fin len, ∃ y : α, ok y ∧ ∃ cs', d.K w y cs' ∧ ∀ j u, cs'[j]? = some u → w.cell? (a.add (i.val * d.sz + j)) = some u := fun i => by
        obtain ⟨cs', h1, h2⟩ := hi i.val (by have := i.isLt; omega)
        obtain ⟨y, hy, hK⟩ := he.read h2 (hW i.val i.isLt)
        obtain ⟨_, hlen, hat⟩ := World.cells?_some h1
        refine ⟨y, hy, cs', hK, fun j u hu => ?_⟩
        have hj : j < cs'.length := (List.getElem?_eq_some_iff.1 hu).1
        have hc1 := hat j (by rw [← hlen]; exact hj)
        rw [he.size, Go.Deep.add_add] at hc1
        rw [hc1, hu]
      let f : Fin len → α := fun i => Classical.choose (key i)
      have hf : ∀ i : Fin len, ok (f i) ∧ ∃ cs', d.K w (f i) cs' ∧ ∀ j u, cs'[j]? = some u → w.cell? (a.add (i.val * d.sz + j)) = some u := fun i => Classical.choose_spec (key i)
      refine ⟨List.ofFn f, ⟨by rw [List.length_ofFn]; omega, by rw [List.length_ofFn]; exact hS, fun x hx => ?_⟩, some a, cap, by rw [List.length_ofFn], by rw [List.length_ofFn]; exact hl, rfl, by rw [List.length_ofFn]; unfold maxLen at hm; omega, fun _ => ⟨a, rfl, fun j p hj => ?_⟩⟩
      · obtain ⟨i, rfl⟩ := List.mem_ofFn.1 hx
        exact (hf i).1
      · have hjl : j < len := by have := (List.getElem?_eq_some_iff.1 hj).1; rwa [List.length_ofFn] at this
        have hp : f ⟨j, hjl⟩ = p := by
          rw [List.getElem?_ofFn, dif_pos hjl] at hj
          exact Option.some.inj hj
        obtain ⟨_, cs', hK, hat⟩ := hf ⟨j, hjl⟩
        rw [hp] at hK
        exact ⟨cs', d.K_len hK, hK, hat⟩⟩
theorem Rd.iso {P : Program} {t : TypeId} {α β : Type} {d : Kd α} {ok : α → Prop} {f : β → α} (g : α → β) (hg : ∀ a, f (g a) = a) (h : Rd P t d ok) : Rd P t (Kd.iso d f) (fun b => ok (f b)) :=
  ⟨h.size, fun ht hw => by
    obtain ⟨a, ha, hK⟩ := h.read ht hw
    exact ⟨g a, by rw [hg]; exact ha, by show d.K _ (f (g a)) _; rw [hg]; exact hK⟩⟩
/-- The fields of a struct, from a place on. -/
structure RdF (P : Program) (fs : List Field) (off : Nat) {α : Type} (d : Kd α) (ok : α → Prop) : Prop where
  read : ∀ {H : Type} {enc : TypeId × Value → H} {w : World} {base : Nat} {spare : Nat → Bool} {held : Bool} {n : Nat} {cs : List Value}, cs.length = off + d.sz →
    (∀ f ∈ fs, ∃ x, DataW.trod enc P w base spare held n f.type ((cs.drop f.offset).take (P.cellsOf f.type)) = some x ∧ ∀ q ∈ x.1.weights P f.type, q ≤ 140737488351232) → ∃ a : α, ok a ∧ d.K w a (cs.drop off)
theorem RdF.last {P : Program} {f : Field} {off : Nat} {α : Type} {d : Kd α} {ok : α → Prop} (ho : f.offset = off) (h : Rd P f.type d ok) : RdF P [f] off d ok :=
  ⟨fun hl hx => by
    obtain ⟨x, hx, hw⟩ := hx f (List.mem_singleton.2 rfl)
    rw [ho, h.size, List.take_of_length_le (by rw [List.length_drop]; omega)] at hx
    exact h.read hx hw⟩
theorem RdF.cons {P : Program} {f : Field} {fs : List Field} {off off' : Nat} {α β : Type} {d : Kd α} {d' : Kd β} {ok : α → Prop} {ok' : β → Prop} (ho : f.offset = off) (ho' : off' = off + d.sz) (h : Rd P f.type d ok) (h' : RdF P fs off' d' ok') :
    RdF P (f :: fs) off (Kd.pair d d') (fun p => ok p.1 ∧ ok' p.2) :=
  ⟨fun {H enc w base spare held n cs} hl hx => by
    have hsz : (Kd.pair d d').sz = d.sz + d'.sz := rfl
    obtain ⟨x, h1, hw⟩ := hx f (List.mem_cons_self ..)
    rw [ho, h.size] at h1
    obtain ⟨a, ha, hK⟩ := h.read h1 hw
    obtain ⟨b, hb, hK'⟩ := h'.read (cs := cs) (by omega) (fun g hg => hx g (List.mem_cons_of_mem _ hg))
    refine ⟨(a, b), ⟨ha, hb⟩, (cs.drop off).take d.sz, cs.drop off', ?_, hK, hK'⟩
    rw [ho', ← List.drop_drop, List.take_append_drop]⟩
theorem Rd.struct {P : Program} {t : TypeId} {fs : Array Field} {α : Type} {d : Kd α} {ok : α → Prop} (ht : P.underlying t = some (.struct fs)) (hc : P.cellsOf t = d.sz) (h : RdF P fs.toList 0 d ok) : Rd P t d ok :=
  ⟨hc, fun {H enc w base spare held fuel cs x} hx hw => by
    obtain ⟨xs, n, _, rfl, hl, hxl, hf⟩ := DataW.trod_struct ht hx
    obtain ⟨a, ha, hK⟩ := h.read (cs := cs) (by rw [hl, hc]; omega) (fun f hm => by
      obtain ⟨i, hi⟩ := List.getElem?_of_mem hm
      have hi' : fs[i]? = some f := by simpa using hi
      have hlt : i < xs.length := by rw [hxl]; exact (Array.getElem?_eq_some_iff.1 hi').1
      refine ⟨xs[i], by rw [hf i f hi', List.getElem?_eq_getElem hlt], fun q hq => hw q ?_⟩
      simp only [DataW.weights, ht]
      refine DataW.weights_mem_each (j := i) (t := f.type) (d := xs[i].1) ?_ ?_ q hq
      · rw [List.getElem?_map, hi]; rfl
      · rw [List.getElem?_map, List.getElem?_eq_getElem hlt]; rfl)
    exact ⟨a, ha, hK⟩⟩
/-- What a row says of the sizes of all arguments, of one. -/
theorem sized_of {H : Type} {P : Program} {ts : List TypeId} {ds : List (DataW H)} (h : (DataW.weightsEach P ts ds).all (· ≤ reachBytes) = true) {j : Nat} {t : TypeId} {d : DataW H} (ht : ts[j]? = some t) (hd : ds[j]? = some d) : ∀ n ∈ d.weights P t, n ≤ 140737488351232 := fun n hn => by
  have := List.all_eq_true.1 h _ (DataW.weights_mem_each ht hd n hn)
  exact of_decide_eq_true this
end Go.Proofs.YtfnikmkjhbbbgaaDoor.Opn
