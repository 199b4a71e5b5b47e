/- The parser of expressions: what it computes, in plain Lean; its memory; take and put. No conditions. -/
import Derived.Test.YtfnikmkjhbbbgaaDoorChk
import Derived.Test.YtfnikmkjhbbbgaaDoorTrim
set_option linter.unusedVariables false
set_option linter.unusedSimpArgs false
namespace Go.Proofs.YtfnikmkjhbbbgaaDoor.HExpr
open Go.RowKit Go.Proofs.YtfnikmkjhbbbgaaDoorW.PrintWords Go.Proofs.YtfnikmkjhbbbgaaDoorW.PrintLast Go.Proofs.YtfnikmkjhbbbgaaDoorW.PrintMore
/-- a parser: what is left, its nodes, is it well? -/
structure PS where
  s : ByteArray
  l : List S51
  ok : Bool
/-- a text without its beginning, and whether it had it -/
def cutS (s t : ByteArray) : ByteArray := ⟨(Lib.trimPrefix s.data.toList t.data.toList).toArray⟩
def hadS (s t : ByteArray) : Bool := Lib.hasPrefix s.data.toList t.data.toList
def takeF (t : ByteArray) (p : PS) : Bool × PS :=
  if hadS (trimS p.s) t then (true, { p with s := cutS (trimS p.s) t }) else (false, { p with s := trimS p.s })
def putF (n : S51) (p : PS) : Option (Int × PS) :=
  if p.l.length < 1000000000 then some ((p.l.length : Int), { p with l := p.l ++ [n], ok := p.ok && decide (p.l.length ≤ 59) }) else none
/-- the loop of a row of things, with a sign between two -/
def rowL (kind : Int) (sign : ByteArray) (one : Int → PS → Option (Int × PS)) : Nat → Int → Int → PS → Option (Int × PS)
  | 0, _, _, _ => none
  | k + 1, deep, a, p =>
    if p.ok = true then
      (if (takeF sign p).1 = true then
        (one deep (takeF sign p).2).bind (fun r => (putF ⟨kind, ⟨#[]⟩, a, r.1⟩ r.2).bind (fun q => rowL kind sign one k deep q.1 q.2))
      else some (a, (takeF sign p).2))
    else some (a, p)
def rowF (k : Nat) (kind : Int) (sign : ByteArray) (one : Int → PS → Option (Int × PS)) (deep : Int) (p : PS) : Option (Int × PS) :=
  (one deep p).bind (fun r => rowL kind sign one k deep r.1 r.2)
/-- how many letters a text begins with -/
def lettersN (s : ByteArray) : Nat := (s.data.toList.takeWhile letterB).length
def notF : Nat → Int → PS → Option (Int × PS)
  | 0, _, _ => none
  | k + 1, deep, p =>
    if p.ok = true then
      (if (takeF ⟨#[33]⟩ p).1 = true then
        (notF k deep { (takeF ⟨#[33]⟩ (takeF ⟨#[33]⟩ p).2).2 with ok := !(takeF ⟨#[33]⟩ (takeF ⟨#[33]⟩ p).2).1 }).bind (fun r => putF ⟨1, ⟨#[]⟩, r.1, 0⟩ r.2)
      else if (takeF ⟨#[40]⟩ (takeF ⟨#[33]⟩ p).2).1 = true then
        (if 0 < deep then
          (rowF k 3 ⟨#[124, 124]⟩ (rowF k 2 ⟨#[38, 38]⟩ (notF k)) (deep - 1) { (takeF ⟨#[40]⟩ (takeF ⟨#[33]⟩ p).2).2 with ok := true }).bind (fun r =>
            if r.2.ok = true then some (r.1, { (takeF ⟨#[41]⟩ r.2).2 with ok := (takeF ⟨#[41]⟩ r.2).1 }) else some (r.1, { r.2 with ok := false }))
        else some (0, { (takeF ⟨#[40]⟩ (takeF ⟨#[33]⟩ p).2).2 with ok := false }))
      else
        let q := (takeF ⟨#[40]⟩ (takeF ⟨#[33]⟩ p).2).2
        let t := q.s.extract 0 (lettersN q.s)
        if q.s.size ≤ 140737488351232 then putF ⟨0, t, 0, 0⟩ { q with s := q.s.extract (lettersN q.s) q.s.size, ok := tagB t } else none)
    else some (0, p)
def andF (k : Nat) : Int → PS → Option (Int × PS) := rowF k 2 ⟨#[38, 38]⟩ (notF k)
def orF (k : Nat) : Int → PS → Option (Int × PS) := rowF k 3 ⟨#[124, 124]⟩ (andF k)

/-- the parser's memory: its block, its row of nodes; below the beginning all is as it was -/
def Par (w0 : World) (g : Nat) (p : PS) (W : World) : Prop :=
  Below w0.heap.size w0 W ∧ w0.heap.size ≤ g ∧ ∃ v, W.heap[g]? = some (.cells #[.string p.s, v, .bool p.ok] 69 (0, 0)) ∧ Kd.R k51 51 W w0.heap.size (fun _ => True) v p.l
theorem Par.below {w0 W W' : World} {g : Nat} {p : PS} (h : Par w0 g p W) (hb : Below W.heap.size W W') : Par w0 g p W' := by
  obtain ⟨h1, h2, v, h3, h4⟩ := h
  exact ⟨below_step h1 hb, h2, v, blk_below h3 hb, Kd.R_below h4 hb⟩
theorem Par.drew {w0 W : World} {g : Nat} {p : PS} (h : Par w0 g p W) (n : Nat) : Par w0 g p (W.drewN n) := h.below (pw_below_drewN (Below.refl _ _) n)
theorem Par.set_s {w0 W : World} {g : Nat} {p : PS} (h : Par w0 g p W) (t : ByteArray) : Par w0 g { p with s := t } (W.setCell ⟨g, 0, none⟩ (.string t)) := by
  obtain ⟨h1, h2, v, h3, h4⟩ := h
  exact ⟨below_set h1 h2, h2, v, blk_put h3 0 _ rfl, Kd.R_mono (Kd.R_far (p := ⟨g, 0, none⟩) (Kd.R_types h4 h3 (by decide)) (fun _ hk => hk.2) _) (fun _ _ => trivial)⟩
theorem Par.set_ok {w0 W : World} {g : Nat} {p : PS} (h : Par w0 g p W) (b : Bool) : Par w0 g { p with ok := b } (W.setCell ⟨g, 2, none⟩ (.bool b)) := by
  obtain ⟨h1, h2, v, h3, h4⟩ := h
  exact ⟨below_set h1 h2, h2, v, blk_put h3 2 _ rfl, Kd.R_mono (Kd.R_far (p := ⟨g, 2, none⟩) (Kd.R_types h4 h3 (by decide)) (fun _ hk => hk.2) _) (fun _ _ => trivial)⟩
theorem Par.cell_s {w0 W : World} {g : Nat} {p : PS} (h : Par w0 g p W) : W.cell? ⟨g, 0, none⟩ = some (.string p.s) := by
  obtain ⟨_, _, v, h3, _⟩ := h; exact (blk_cell h3 0).trans rfl
theorem Par.cell_ok {w0 W : World} {g : Nat} {p : PS} (h : Par w0 g p W) : W.cell? ⟨g, 2, none⟩ = some (.bool p.ok) := by
  obtain ⟨_, _, v, h3, _⟩ := h; exact (blk_cell h3 2).trans rfl
theorem Par.free {w0 W : World} {g : Nat} {p : PS} (h : Par w0 g p W) (j : Nat) : W.frozen? ⟨g, j, none⟩ = false := by
  obtain ⟨_, _, v, h3, _⟩ := h; exact blk_frozen h3 j
set_option maxHeartbeats 8000000 in
set_option maxRecDepth 100000 in
theorem take_calls (w0 : World) (g : Nat) (p : PS) (t : ByteArray) (w : World) (h : Par w0 g p w) :
    Calls Tryd.prog 39 #[.pointer (some ⟨g, 0, none⟩), .string t] w fun e w' => e = .returned (.bool (takeF t p).1) ∧ Par w0 g (takeF t p).2 w' := by
  have hu67 := Tryd.underlying67
  have hu69 := Tryd.underlying69
  have HP := Aside0.mk h
  clear h
  have hc0 := HP.out.cell_s
  cases hh : hadS (trimS p.s) t with
  | true =>
    have HH := Aside0.mk hh
    have HT := Aside0.mk (show ∀ W : World, Calls Tryd.prog 58 #[.string (trimS p.s), .string t] W fun e w' => e = .returned (.tuple #[.string (cutS (trimS p.s) t), .bool true]) ∧ w' = W from fun W => (Tryd.strings_CutPrefix (trimS p.s) t W).mono fun e w' h2 => ⟨by rw [h2.1, ← show hadS (trimS p.s) t = true from hh]; rfl, h2.2⟩)
    clear hh
    go_enter Tryd.func39, Tryd.ntmps39
    go_wp2_with (first | (go_at_call 57; refine (trimLeft_calls p.s _).mono ?_; rintro e w1 ⟨rfl, hb⟩; have HP1 := Aside0.mk (HP.out.below hb); have hc1 := HP1.out.cell_s; have hf1 := HP1.out.free 0; have HP2 := Aside0.mk (HP1.out.set_s (trimS p.s)); have hc2 := HP2.out.cell_s; have hf2 := HP2.out.free 0; clear hb hc0 HP) | (go_at_call 58; refine (HT.out _).mono ?_; rintro e w2 ⟨rfl, rfl⟩))
    go_ret
    refine ⟨?_, ?_⟩
    · unfold takeF; rw [if_pos HH.out]; rfl
    · unfold takeF; rw [if_pos HH.out]; exact HP2.out.set_s (cutS (trimS p.s) t)
  | false =>
    have HH := Aside0.mk hh
    have HT := Aside0.mk (show ∀ W : World, Calls Tryd.prog 58 #[.string (trimS p.s), .string t] W fun e w' => e = .returned (.tuple #[.string (cutS (trimS p.s) t), .bool false]) ∧ w' = W from fun W => (Tryd.strings_CutPrefix (trimS p.s) t W).mono fun e w' h2 => ⟨by rw [h2.1, ← show hadS (trimS p.s) t = false from hh]; rfl, h2.2⟩)
    clear hh
    go_enter Tryd.func39, Tryd.ntmps39
    go_wp2_with (first | (go_at_call 57; refine (trimLeft_calls p.s _).mono ?_; rintro e w1 ⟨rfl, hb⟩; have HP1 := Aside0.mk (HP.out.below hb); have hc1 := HP1.out.cell_s; have hf1 := HP1.out.free 0; have HP2 := Aside0.mk (HP1.out.set_s (trimS p.s)); have hc2 := HP2.out.cell_s; have hf2 := HP2.out.free 0; clear hb hc0 HP) | (go_at_call 58; refine (HT.out _).mono ?_; rintro e w2 ⟨rfl, rfl⟩))
    go_ret
    refine ⟨?_, ?_⟩
    · unfold takeF; rw [if_neg (by rw [HH.out]; decide)]; rfl
    · unfold takeF; rw [if_neg (by rw [HH.out]; decide)]; exact HP2.out
set_option maxHeartbeats 8000000 in
set_option maxRecDepth 100000 in
theorem put_calls (w0 : World) (g : Nat) (p : PS) (n : S51) (r : Int) (q : PS) (w : World) (hp : Par w0 g p w) (h : putF n p = some (r, q)) :
    Calls Tryd.prog 63 #[.pointer (some ⟨g, 0, none⟩), .agg #[.int .i64 n.f0, .string n.f1, .int .i64 n.f2, .int .i64 n.f3]] w fun e w' => e = .returned (.int .i64 r) ∧ Par w0 g q w' := by
  have hu67 := Tryd.underlying67
  have hu69 := Tryd.underlying69
  have hu51 := Tryd.underlying51
  have HP := Aside0.mk hp
  clear hp
  unfold putF at h
  split at h
  case isFalse => cases h
  rename_i hlim
  obtain ⟨rfl, rfl⟩ := Prod.mk.inj (Option.some.inj h)
  clear h
  obtain ⟨hb0, hg0, v, hblk, hrow⟩ := HP.out
  have hpar := HP
  obtain ⟨gb, hgb⟩ : ∃ gb, gb = w.heap.size := ⟨_, rfl⟩
  have NBV := Aside0.mk (show some gb ≠ v.ownBlock from fun e => by have := Kd.R_lt hrow gb e.symm; omega)
  have HL := Aside0.mk (Kd.R_drew (Kd.R_alloc hrow (Obj.cells #[.int .i64 n.f0, .string n.f1, .int .i64 n.f2, .int .i64 n.f3] 51)))
  have GB := Aside0.mk (blk_drew (blk_below hblk (below_alloc (Below.refl w.heap.size w) (Obj.cells #[.int .i64 n.f0, .string n.f1, .int .i64 n.f2, .int .i64 n.f3] 51))))
  have NBK : Aside0 ((w.alloc (Obj.cells #[.int .i64 n.f0, .string n.f1, .int .i64 n.f2, .int .i64 n.f3] 51)).drew.heap[gb]? = some (.cells #[.int .i64 n.f0, .string n.f1, .int .i64 n.f2, .int .i64 n.f3] 51 (0, 0))) := ⟨by rw [hgb]; exact blk_drew (heap_alloc_last w _)⟩
  have HBB := Aside0.mk (below_drew1 (below_step hb0 (below_alloc (Below.refl w.heap.size w) (Obj.cells #[.int .i64 n.f0, .string n.f1, .int .i64 n.f2, .int .i64 n.f3] 51))))
  have HG0 := Aside0.mk hg0
  have HGB := Aside0.mk hgb
  clear hb0 hg0 hblk hrow hpar HP hgb
  go_enter Tryd.func63, Tryd.ntmps63
  go_upto_region 1 with fail
  rw [← HGB.out]
  refine start_ (n := 11) (S := fun w' => w'.cell? ⟨g, 1, none⟩ = some v ∧ w'.cell? ⟨gb, 0, none⟩ = some (.int .i64 n.f0) ∧ w'.cell? ⟨gb, 1, none⟩ = some (.string n.f1) ∧ w'.cell? ⟨gb, 2, none⟩ = some (.int .i64 n.f2) ∧ w'.cell? ⟨gb, 3, none⟩ = some (.int .i64 n.f3)) (ds := [10]) #[false, false, false, false, false, false, false, false, false, false, false] (by kernel_rfl) rfl rfl ⟨(blk_cell GB.out 1).trans rfl, (blk_cell NBK.out 0).trans rfl, (blk_cell NBK.out 1).trans rfl, (blk_cell NBK.out 2).trans rfl, (blk_cell NBK.out 3).trans rfl⟩ (fun hHeld => ?_)
  generalize (w.alloc (Obj.cells #[.int .i64 n.f0, .string n.f1, .int .i64 n.f2, .int .i64 n.f3] 51)).drew = w2 at HL GB NBK HBB hHeld ⊢
  refine pure_ (i := 0) (N := some 5) (v := ?_) (a' := ?_) #[true, false, false, false, false, false, false, false, false, false, false] rfl rfl (by kernel_rfl) (fun _ _ _ h => h) (Or.inl ⟨by rfl, ?_⟩) ?_ ?_
  rotate_left
  · intro w'
    go_simp
    with_reducible rfl
  rotate_left
  · simp only [Act.put, List.setIfInBounds_toArray, List.set_cons_zero, List.set_cons_succ, i64_w, i32_w]
    rfl
  refine pure_ (i := 1) (N := some 6) (v := ?_) (a' := ?_) #[true, true, false, false, false, false, false, false, false, false, false] rfl rfl (by kernel_rfl) (fun _ _ _ h => h) (Or.inl ⟨by rfl, ?_⟩) ?_ ?_
  rotate_left
  · intro w'
    go_simp
    with_reducible rfl
  rotate_left
  · simp only [Act.put, List.setIfInBounds_toArray, List.set_cons_zero, List.set_cons_succ, i64_w, i32_w]
    rfl
  refine pure_ (i := 2) (N := some 7) (v := ?_) (a' := ?_) #[true, true, true, false, false, false, false, false, false, false, false] rfl rfl (by kernel_rfl) (fun _ _ _ h => h) (Or.inl ⟨by rfl, ?_⟩) ?_ ?_
  rotate_left
  · intro w'
    go_simp
    with_reducible rfl
  rotate_left
  · simp only [Act.put, List.setIfInBounds_toArray, List.set_cons_zero, List.set_cons_succ, i64_w, i32_w]
    rfl
  refine pure_ (i := 3) (N := some 8) (v := ?_) (a' := ?_) #[true, true, true, true, false, false, false, false, false, false, false] rfl rfl (by kernel_rfl) (fun _ _ _ h => h) (Or.inl ⟨by rfl, ?_⟩) ?_ ?_
  rotate_left
  · intro w'
    go_simp
    with_reducible rfl
  rotate_left
  · simp only [Act.put, List.setIfInBounds_toArray, List.set_cons_zero, List.set_cons_succ, i64_w, i32_w]
    rfl
  refine take_ (i := 4) (N := some 9) (v := ?_) (a' := ?_) #[true, true, true, true, true, false, false, false, false, false, false] rfl rfl (by kernel_rfl) (fun _ _ _ h => h) (Or.inl ⟨by rfl, ?_⟩) hHeld ?_ ?_
  rotate_left
  · rintro w' ⟨s0, s1, s2, s3, s4⟩
    go_simp
    with_reducible rfl
  rotate_left
  · simp only [Act.put, List.setIfInBounds_toArray, List.set_cons_zero, List.set_cons_succ, i64_w, i32_w]
    rfl
  refine take_ (i := 5) (N := some 10) (v := ?_) (a' := ?_) #[true, true, true, true, true, true, false, false, false, false, false] rfl rfl (by kernel_rfl) (fun _ _ _ h => h) (Or.inl ⟨by rfl, ?_⟩) hHeld ?_ ?_
  rotate_left
  · rintro w' ⟨s0, s1, s2, s3, s4⟩
    go_simp
    with_reducible rfl
  rotate_left
  · simp only [Act.put, List.setIfInBounds_toArray, List.set_cons_zero, List.set_cons_succ, i64_w, i32_w]
    rfl
  refine one_ (i := 6) (N := some 11) #[true, true, true, true, true, true, true, false, false, false, false] rfl rfl (by kernel_rfl) (by decide) (fun K hK => ?_)
  refine Kd.R_lit_step k51 _ 51 ?hg (N := 11) ?hd (xs := ([n] : List S51)) (inner := [.int .i64 n.f0, .string n.f1, .int .i64 n.f2, .int .i64 n.f3]) (ok := fun _ => True) (okp := fun _ => True) ?hr ?hp (fun _ hk => hk) trivial (Below.refl _ _) (Nat.le_refl _) (by simp) ?_; (case hd => rfl); (case hg => rfl); (case hr => first | (go_simp; done) | (go_simp; rfl)); (case hp => exact (Reps.snoc (Reps.none _ _) (k51_mkM _ _ _ n) rfl))
  intro v11 w6 ho6 hb6 hg_ hnew_
  clear hg_ hnew_
  have HL6 := Aside0.mk (Kd.R_elder' HL.out (Kd.R_base ho6) hb6)
  have HN6 := Aside0.mk (Kd.R_lower (Kd.R_new' ho6 (Kd.R_lt HL.out)) (below_size HBB.out))
  have GB6 := Aside0.mk (blk_below GB.out hb6)
  have NB6 := Aside0.mk (blk_below NBK.out hb6)
  have HB6 := Aside0.mk (below_step HBB.out hb6)
  clear HL GB NBK HBB hb6 ho6
  obtain ⟨Ao6, co6, eo6⟩ := Kd.R_slice HN6.out
  subst eo6
  refine hK.out _ _ ⟨(blk_cell GB6.out 1).trans rfl, (blk_cell NB6.out 0).trans rfl, (blk_cell NB6.out 1).trans rfl, (blk_cell NB6.out 2).trans rfl, (blk_cell NB6.out 3).trans rfl⟩ (fun hHeld => ?_)
  clear hK K
  refine norm_ (a' := ?_) ?_ ?_
  rotate_left
  · show Act.put _ (some 11) _ = _
    simp only [Act.put, List.setIfInBounds_toArray, List.set_cons_zero, List.set_cons_succ, i64_w, i32_w]
    rfl
  refine one_ (i := 7) (N := some 12) #[true, true, true, true, true, true, true, true, false, false, false] rfl rfl (by kernel_rfl) (by decide) (fun K hK => ?_)
  refine Kd.R_append_rows_step k51 (Rr := k51.K w6) (w0 := w0) w0.heap.size (by rfl) (.tmp 9) (.tmp 11) 22 51 (.agg #[(.int .i64 0), (.string ⟨#[]⟩), (.int .i64 0), (.int .i64 0)]) 40 rfl Tryd.underlying22 info51 rfl (by decide) (by omega) v p.l [n] _ _ _ (fun k_ => some k_ ≠ (.slice Ao6 ([n] : List S51).length co6 : Value).ownBlock) (fun _ => False) rfl rfl ?aO ?aR ?aK (fun _ h => h.elim) ?aF ?aB ?aS ?aL ?_
  (case aR => exact (Kd.R_reads' HN6.out).2.2)
  (case aK => (intro x cs hx; obtain rfl := k51_open hx; exact k51_mkM _ _ _ _))
  (case aB => exact HB6.out)
  (case aF => exact (fun k_ hk => Kd.fresh' (Kd.R_lt HN6.out) k_ hk))
  (case aO => exact Kd.R_mono HL6.out (fun _ hk => hk.2))
  (case aS => exact below_size HB6.out)
  (case aL => have := hlim; simp only [List.length_cons, List.length_nil]; omega)
  intro v12 w7 ho7 hb7 hg7 hat7
  have GB7 := Aside0.mk (blk_grown (g := g) GB6.out hg7 (Kd.R_ne HL6.out GB6.out (by decide)))
  have NB7 := Aside0.mk (blk_grown (g := gb) NB6.out hg7 (NBV.out))
  have HL7 := Aside0.mk (Kd.R_mono (ok' := fun _ => True) ho7 (fun _ _ => trivial))
  have HB7 := Aside0.mk hb7
  clear HL6 GB6 NB6 HB6 HN6 ho7 hb7 hg7 hat7
  obtain ⟨Ao7, co7, eo7⟩ := Kd.R_slice HL7.out
  subst eo7
  have hcell7 : w7.cell? ⟨g, 1, none⟩ = some v := (blk_cell GB7.out 1).trans rfl
  have hfree7 := blk_frozen GB7.out 1
  refine hK.out _ _ ⟨(blk_cell GB7.out 1).trans rfl, (blk_cell NB7.out 0).trans rfl, (blk_cell NB7.out 1).trans rfl, (blk_cell NB7.out 2).trans rfl, (blk_cell NB7.out 3).trans rfl⟩ (fun hHeld => ?_)
  clear hK K
  refine norm_ (a' := ?_) ?_ ?_
  rotate_left
  · show Act.put _ (some 12) _ = _
    simp only [Act.put, List.setIfInBounds_toArray, List.set_cons_zero, List.set_cons_succ, i64_w, i32_w]
    rfl
  refine pure_ (i := 8) (N := some 13) (v := ?_) (a' := ?_) #[true, true, true, true, true, true, true, true, true, false, false] rfl rfl (by kernel_rfl) (fun _ _ _ h => h) (Or.inl ⟨by rfl, ?_⟩) ?_ ?_
  rotate_left
  · intro w'
    go_simp
    with_reducible rfl
  rotate_left
  · simp only [Act.put, List.setIfInBounds_toArray, List.set_cons_zero, List.set_cons_succ, i64_w, i32_w]
    rfl
  refine pure_ (i := 9) (N := some 14) (v := ?_) (a' := ?_) #[true, true, true, true, true, true, true, true, true, true, false] rfl rfl (by kernel_rfl) (fun _ _ _ h => h) (Or.inl ⟨by rfl, ?_⟩) ?_ ?_
  rotate_left
  · intro w'
    go_simp
    with_reducible rfl
  rotate_left
  · simp only [Act.put, List.setIfInBounds_toArray, List.set_cons_zero, List.set_cons_succ, i64_w, i32_w]
    rfl
  refine last_ (i := 10) (N := none) #[true, true, true, true, true, true, true, true, true, true, true] rfl rfl (by kernel_rfl) (by decide) (fun K hK => ?_)
  refine skip_ (w1 := ?_) (by rfl) rfl ?_ ?_
  rotate_left
  · go_simp
    rfl
  refine hK.out _ _ ?_
  clear hK K
  refine done_ (by kernel_rfl) ?_
  have HPF : Par w0 g { p with l := p.l ++ [n] } (w7.setCell ⟨g, 1, none⟩ (.slice Ao7 (p.l ++ [n]).length co7)) := ⟨below_set HB7.out HG0.out, HG0.out, _, blk_put GB7.out 1 _ rfl, Kd.R_mono (Kd.R_far (p := ⟨g, 1, none⟩) (Kd.R_types HL7.out GB7.out (by decide)) (fun _ hk => hk.2) _) (fun _ _ => trivial)⟩
  rw [show (p.l ++ [n]).length = p.l.length + 1 by simp] at HPF
  have HP3 := Aside0.mk HPF
  clear HPF GB7 NB7 HL7 HB7 hcell7 hfree7
  generalize w7.setCell ⟨g, 1, none⟩ (.slice Ao7 (p.l.length + 1) co7) = w8 at HP3 ⊢
  obtain ⟨_, _, v8, hb8, hr8⟩ := HP3.out
  obtain ⟨A8, c8, e8⟩ := Kd.R_slice hr8
  subst e8
  rw [show (p.l ++ [n]).length = p.l.length + 1 by simp] at hb8
  have hs8 : w8.cell? ⟨g, 1, none⟩ = some (.slice A8 (p.l.length + 1) c8) := (blk_cell hb8 1).trans rfl
  have ho8 : w8.cell? ⟨g, 2, none⟩ = some (.bool p.ok) := (blk_cell hb8 2).trans rfl
  have hf8 := blk_frozen hb8 2
  clear hb8 hr8
  have hlw : IntKind.i64.wrap (((p.l.length + 1 : Nat) : Int) - 1) = (p.l.length : Int) := by rw [i64_w, w64 _ (by omega) (by omega)]; omega
  have hlw2 : IntKind.i64.wrap ((p.l.length : Int) + 1 - 1) = (p.l.length : Int) := by rw [i64_w, w64 _ (by omega) (by omega)]; omega
  obtain ⟨ok, hok⟩ : ∃ ok, ok = p.ok := ⟨_, rfl⟩
  rw [← hok] at ho8
  by_cases h60 : p.l.length ≤ 59
  · have d60 : decide (((p.l.length + 1 : Nat) : Int) ≤ 60) = true := decide_eq_true (by omega)
    have d61 : decide ((p.l.length : Int) + 1 ≤ 60) = true := decide_eq_true (by omega)
    cases ok with
    | true =>
      have H9 := Aside0.mk (show Par w0 g { p with l := p.l ++ [n], ok := p.ok && decide (p.l.length ≤ 59) } (w8.setCell ⟨g, 2, none⟩ (.bool true)) by have h9 := HP3.out.set_ok true; rw [← hok]; simpa [h60] using h9)
      clear hok h60
      go_wp2
      go_ret
      exact ⟨rfl, H9.out⟩
    | false =>
      have H9 := Aside0.mk (show Par w0 g { p with l := p.l ++ [n], ok := p.ok && decide (p.l.length ≤ 59) } (w8.setCell ⟨g, 2, none⟩ (.bool false)) by have h9 := HP3.out.set_ok false; rw [← hok]; simpa [h60] using h9)
      clear hok h60
      go_wp2
      go_ret
      exact ⟨rfl, H9.out⟩
  · have d60 : decide (((p.l.length + 1 : Nat) : Int) ≤ 60) = false := decide_eq_false (by omega)
    have d61 : decide ((p.l.length : Int) + 1 ≤ 60) = false := decide_eq_false (by omega)
    cases ok with
    | true =>
      have H9 := Aside0.mk (show Par w0 g { p with l := p.l ++ [n], ok := p.ok && decide (p.l.length ≤ 59) } (w8.setCell ⟨g, 2, none⟩ (.bool false)) by have h9 := HP3.out.set_ok false; rw [← hok]; simpa [h60] using h9)
      clear hok h60
      go_wp2
      go_ret
      exact ⟨rfl, H9.out⟩
    | false =>
      have H9 := Aside0.mk (show Par w0 g { p with l := p.l ++ [n], ok := p.ok && decide (p.l.length ≤ 59) } (w8.setCell ⟨g, 2, none⟩ (.bool false)) by have h9 := HP3.out.set_ok false; rw [← hok]; simpa [h60] using h9)
      clear hok h60
      go_wp2
      go_ret
      exact ⟨rfl, H9.out⟩
end Go.Proofs.YtfnikmkjhbbbgaaDoor.HExpr
