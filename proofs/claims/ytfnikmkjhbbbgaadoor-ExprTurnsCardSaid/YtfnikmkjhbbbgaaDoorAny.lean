/- The contract of expr.Any: the plain function it computes; no conditions. -/
import Derived.Test.YtfnikmkjhbbbgaaDoorCheck
import Derived.StillTailTactics
set_option linter.unusedVariables false
set_option linter.unusedSimpArgs false
namespace Go.Proofs.YtfnikmkjhbbbgaaDoor.HExpr
open Go.RowKit Go.Proofs.YtfnikmkjhbbbgaaDoorW.PrintWords Go.Proofs.YtfnikmkjhbbbgaaDoorW.PrintLast Go.Proofs.YtfnikmkjhbbbgaaDoorW.PrintMore
def expr_Any.f (l0 : List (S51)) : Option (Bool) := if small l0 then anF l0 else none
theorem info65 : (Tryd.prog.info? 65).map (fun i => (i.zero, i.size, i.bytes)) = some (some (.agg #[.bool false, .bool false]), 2, 2) := by kernel_rfl
def k65 : Kd (Bool × Bool) := Kd.pair Kd.bool Kd.bool
theorem k65_openM {w : World} {base : Nat} {ok : Nat → Prop} {x : Bool × Bool} {cs : List Value} (h : k65.M w base ok x cs) : cs = [.bool x.1, .bool x.2] := by
  obtain ⟨_, _, rfl, rfl, rfl⟩ := h; rfl
theorem k65_mkM (w : World) (base : Nat) (ok : Nat → Prop) (x : Bool × Bool) : k65.M w base ok x [.bool x.1, .bool x.2] := ⟨[.bool x.1], [.bool x.2], rfl, rfl, rfl⟩
theorem two_boxes (W : World) (oa ob : Obj) : ((W.alloc oa).alloc ob).heap[W.heap.size]? = some oa ∧ ((W.alloc oa).alloc ob).heap[W.heap.size + 1]? = some ob := by
  constructor
  · rw [show ((W.alloc oa).alloc ob).heap = (W.heap.push oa).push ob from rfl, Array.getElem?_push, if_neg (by simp), Array.getElem?_push, if_pos rfl]
  · rw [show ((W.alloc oa).alloc ob).heap = (W.heap.push oa).push ob from rfl, Array.getElem?_push, if_pos (by simp)]
theorem two_below (W : World) (oa ob : Obj) (n : Nat) : Below W.heap.size W (((W.alloc oa).alloc ob).drewN n) :=
  pw_below_drewN (below_alloc (below_alloc (Below.refl _ _) oa) ob) n
theorem cell_up {W : World} {p : Addr} {v : Value} (o : Obj) (h : W.cell? p = some v) : (W.alloc o).cell? p = some v :=
  ((below_alloc (Below.refl W.heap.size W) o).cell (World.block_lt_of_cell? W _ h)).trans h
theorem index66 (c0 c1 c2 c3 c4 c5 c6 c7 : Value) (w : World) : (Instr.index 66 (.agg #[c0,c1,c2,c3,c4,c5,c6,c7]) (.int .i64 0)).run Tryd.prog w = .ok (.agg #[c0, c1]) w ∧ (Instr.index 66 (.agg #[c0,c1,c2,c3,c4,c5,c6,c7]) (.int .i64 1)).run Tryd.prog w = .ok (.agg #[c2, c3]) w ∧ (Instr.index 66 (.agg #[c0,c1,c2,c3,c4,c5,c6,c7]) (.int .i64 2)).run Tryd.prog w = .ok (.agg #[c4, c5]) w ∧ (Instr.index 66 (.agg #[c0,c1,c2,c3,c4,c5,c6,c7]) (.int .i64 3)).run Tryd.prog w = .ok (.agg #[c6, c7]) w := by
  have h66 := Tryd.underlying66
  refine ⟨?_, ?_, ?_, ?_⟩
  all_goals
    simp [Instr.index, run_underlying h66, asIntOf, part, go_sem]
theorem index66_0 (c0 c1 c2 c3 c4 c5 c6 c7 : Value) (w : World) : (Instr.index 66 (.agg #[c0,c1,c2,c3,c4,c5,c6,c7]) (.int .i64 0)).run Tryd.prog w = .ok (.agg #[c0, c1]) w := (index66 c0 c1 c2 c3 c4 c5 c6 c7 w).1
theorem index66_1 (c0 c1 c2 c3 c4 c5 c6 c7 : Value) (w : World) : (Instr.index 66 (.agg #[c0,c1,c2,c3,c4,c5,c6,c7]) (.int .i64 1)).run Tryd.prog w = .ok (.agg #[c2, c3]) w := (index66 c0 c1 c2 c3 c4 c5 c6 c7 w).2.1
theorem index66_2 (c0 c1 c2 c3 c4 c5 c6 c7 : Value) (w : World) : (Instr.index 66 (.agg #[c0,c1,c2,c3,c4,c5,c6,c7]) (.int .i64 2)).run Tryd.prog w = .ok (.agg #[c4, c5]) w := (index66 c0 c1 c2 c3 c4 c5 c6 c7 w).2.2.1
theorem index66_3 (c0 c1 c2 c3 c4 c5 c6 c7 : Value) (w : World) : (Instr.index 66 (.agg #[c0,c1,c2,c3,c4,c5,c6,c7]) (.int .i64 3)).run Tryd.prog w = .ok (.agg #[c6, c7]) w := (index66 c0 c1 c2 c3 c4 c5 c6 c7 w).2.2.2
attribute [local go_sem] index66_0 index66_1 index66_2 index66_3
theorem ignore_list : ignoreT.toList = [105, 103, 110, 111, 114, 101] := by kernel_rfl
/-- what a node may be -/
def mayVal (x : S51) (a b : Bool × Bool) : Bool × Bool := if x.f0 = 0 then (x.f1.toList != ignoreT.toList, true) else join2 x.f0 a b
theorem gi_getD {α : Type} {ms zs : List α} {z : α} {i : Int} (h0 : 0 ≤ i) (h1 : i < ms.length) : gi ms i = some ((ms ++ zs).getD i.toNat z) := by
  have : i.toNat < ms.length := by omega
  unfold gi; rw [if_pos h0, List.getD_eq_getElem?_getD, List.getElem?_append_left this, List.getElem?_eq_getElem this]; rfl
theorem an_step {x : S51} {rest : List S51} {ms zs : List (Bool × Bool)} {a b z : Bool × Bool} {β : Type} {F : List (Bool × Bool) → Option β} {r : β} (hno : nameOk (ms.length : Int) x)
    (ha : a = (ms ++ zs).getD x.f2.toNat z) (hb : b = (ms ++ zs).getD x.f3.toNat z) (h : (anN (x :: rest) ms).bind F = some r) : (anN rest (ms ++ [mayVal x a b])).bind F = some r := by
  simp only [anN] at h
  unfold mayVal
  rcases hno with ⟨h0, h1, h2⟩ | ⟨h0, h1, h2, h3⟩ | ⟨h0, h1, h2, h3, h4⟩
  · rw [if_pos h0, if_pos ⟨h1, h2⟩] at h; rw [if_pos h0]; exact h
  · rw [if_neg (by omega), if_pos (by omega), gi_getD (zs := zs) (z := z) h1 h2, gi_getD (zs := zs) (z := z) (by omega) (by omega), ← ha, ← hb] at h
    rw [if_neg (by omega)]; exact h
  · rw [if_neg (by omega), if_pos (by omega), gi_getD (zs := zs) (z := z) h1 h2, gi_getD (zs := zs) (z := z) h3 h4, ← ha, ← hb] at h
    rw [if_neg (by omega)]; exact h
theorem set_mid {α : Type} (ms : List α) (n : Nat) (z p : α) (h : ms.length < n) : (ms ++ List.replicate (n - ms.length) z).set ms.length p = (ms ++ [p]) ++ List.replicate (n - (ms.length + 1)) z := by
  rw [show n - ms.length = (n - (ms.length + 1)) + 1 by omega, List.replicate_succ]
  simp
/-- an element of a row of one's own is written -/
theorem two_put {W : World} {base g n cap : Nat} {ms : List (Bool × Bool)} (h : k65.R 65 W base (fun _ => True) (.slice (some ⟨g, 0, none⟩) n cap) (ms ++ List.replicate (n - ms.length) (false, false))) (hi : ms.length < n) (p : Bool × Bool) :
    k65.R 65 ((W.setCell ⟨g, ms.length * 2, none⟩ (.bool p.1)).setCell ⟨g, ms.length * 2 + 1, none⟩ (.bool p.2)) base (fun _ => True) (.slice (some ⟨g, 0, none⟩) n cap) ((ms ++ [p]) ++ List.replicate (n - (ms.length + 1)) (false, false)) := by
  obtain ⟨c, hcl, hM, hc, hf⟩ := Kd.R_elem h (false, false) (ms.length : Int) (by omega) (by omega)
  obtain ⟨h1, _⟩ := Kd.R_seg (seg := [.bool p.1, .bool p.2]) (j := 0) (x' := p) (okp := fun _ => False) h (ms.length : Int) (by omega) (by omega) hcl hc (by show 2 ≤ k65.sz; decide) (by rw [k65_openM hM]; exact k65_mkM _ _ _ p) (fun _ hk => hk.elim)
  rw [Int.toNat_natCast, set_mid ms n _ p hi] at h1
  exact h1
/-- the two cells of an element of a row of one's own -/
theorem at_two {W : World} {base : Nat} {ok : Nat → Prop} {g n cap : Nat} {xs : List (Bool × Bool)} (h : k65.R 65 W base ok (.slice (some ⟨g, 0, none⟩) n cap) xs) (i : Int) (h0 : 0 ≤ i) (h1 : i < n) :
    W.cell? ⟨g, i.toNat * 2, none⟩ = some (.bool (xs.getD i.toNat (false, false)).1) ∧ W.cell? ⟨g, i.toNat * 2 + 1, none⟩ = some (.bool (xs.getD i.toNat (false, false)).2) ∧ W.frozen? ⟨g, i.toNat * 2, none⟩ = false ∧ W.frozen? ⟨g, i.toNat * 2 + 1, none⟩ = false := by
  obtain ⟨c, _, hM, hc, hf⟩ := Kd.R_elem h (false, false) i h0 h1
  obtain rfl := k65_openM hM
  exact ⟨hc 0 _ rfl, hc 1 _ rfl, hf 0, hf 1⟩
set_option maxHeartbeats 8000000 in
set_option maxRecDepth 100000 in
theorem expr_Any.calls (A0 : Option Addr) (c0 : Nat) (l0 : List (S51)) (r : Bool) (w : World) (hr0 : Kd.C k51 w A0 l0.length l0) (hc0 : l0.length ≤ c0) (h : expr_Any.f l0 = some r) :
    Calls Tryd.prog 16 #[.slice A0 l0.length c0] w fun e w' => e = .returned (.bool r) ∧ Below w.heap.size w w' := by
  have hu51 := Tryd.underlying51
  have hu65 := Tryd.underlying65
  have HR0 := Aside0.mk hr0
  have HC0 := Aside0.mk hc0
  clear hr0 hc0
  have HB := Aside0.mk (Below.refl w.heap.size w)
  unfold expr_Any.f at h
  by_cases hsm : small l0
  case neg => rw [if_neg hsm] at h; cases h
  rw [if_pos hsm] at h
  have Hck := Aside0.mk (show expr_Check.f l0 = some (chk l0) by unfold expr_Check.f; rw [if_pos hsm])
  clear hsm
  unfold anF at h
  by_cases c1 : chk l0 = 0
  · rw [if_pos c1] at h
    have H := Aside0.mk h
    clear h
    have hlen := (chk_zero c1).1
    have hne := chk_some c1
    have c1b : (chk l0 != 0) = false := by simp [c1]
    have c1b' : decide (chk l0 = 0) = true := by simp [c1]
    go_enter Tryd.func16, Tryd.ntmps16
    go_wp2_with (first | ((with_reducible refine gate_callee (f := 12) rfl ?_); refine goesL_ (some 9) rfl rfl Tryd.func12 (by kernel_rfl) rfl #[.slice A0 l0.length c0] rfl (by (try simp only [List.map_toArray, List.map_cons, List.map_nil]); first | done | rfl) ?_; (with_reducible refine (expr_Check.calls _ _ l0 _ _ ?side1 ?side2 Hck.out).mono ?_); (case side1 => exact HR0.out); (case side2 => exact HC0.out); rintro e w4 ⟨rfl, hb⟩; refine ⟨_, rfl, ?_⟩; have HB4 := Aside0.mk (below_step HB.out hb); have HR4 := Aside0.mk (Kd.C_below HR0.out hb); clear hb) | ((with_reducible refine gate_dst (N := 13) rfl ?_); refine Kd.R_make k65 (w0 := w) w.heap.size 65 (by rfl) (N := 13) (by rfl) 63 (.tmp 12) (.tmp 12) rfl (l0.length : Int) (by go_simp) (by go_simp) Tryd.underlying63 (.agg #[.bool false, .bool false]) 2 info65 rfl (by decide) (by decide) (false, false) (ok := fun _ => True) (okp := fun _ => True) ?hz (fun _ h => h) trivial (by omega) (by omega) HB4.out (below_size HB4.out) ?_; (case hz => exact ⟨[.bool false], [.bool false], rfl, rfl, rfl⟩); intro v13 w13 ho hb hg_ hnew_; have hg1 := Aside0.mk hg_; clear hnew_; have HO := Aside0.mk ho; have HB5 := Aside0.mk hb; clear ho hb hg_; refine Aside0.out ?_))
    refine Aside0.mk ?_
    have hlp : 0 < l0.length := List.length_pos_iff.2 hne
    obtain ⟨gm, cm, ev, hbm, _, _⟩ := Kd.R_form HO.out (by simp; omega)
    simp only [Int.toNat_natCast, List.length_replicate] at ev HO
    subst ev
    go_wp2_with fail
    go_loopw [16] (fun v16 w' => ∃ (i : Nat) (ms : List (Bool × Bool)), v16 = .int .i64 (i : Int) ∧ Aside0 (i ≤ l0.length ∧ ms.length = i) ∧ Aside0 ((anN (l0.drop i) ms).bind (fun is => Option.map Prod.fst is.getLast?) = some r) ∧ Aside0 (Kd.R k65 65 w' w.heap.size (fun _ => True) (.slice (some ⟨gm, 0, none⟩) l0.length cm) (ms ++ List.replicate (l0.length - i) (false, false))) ∧ Aside0 (Below w.heap.size w w')) (fun v16 w' => l0.length - (intOf v16).toNat)
    case atStart => exact ⟨0, [], rfl, ⟨by omega, rfl⟩, ⟨by simpa using H.out⟩, ⟨by simpa using HO.out⟩, HB5⟩
    case round =>
      obtain ⟨i, ms, rfl, HI, HA, HM, HBr⟩ := hrel
      clear HO HB5 HB4 HR4 hg1 HB
      by_cases hi : i < l0.length
      · have p110 : (0 : Int) ≤ (i : Int) := by omega
        have q110 : (i : Int) < (l0.length : Int) := by omega
        obtain ⟨ad110, e110, hx110_0, hx110_1, hx110_2, hx110_3⟩ := at_T51 HR0.out (i : Int) p110 q110
        cases e110
        replace hx110_0 := (HBr.out.cell (World.block_lt_of_cell? w _ hx110_0)).trans hx110_0
        replace hx110_1 := (HBr.out.cell (World.block_lt_of_cell? w _ hx110_1)).trans hx110_1
        replace hx110_2 := (HBr.out.cell (World.block_lt_of_cell? w _ hx110_2)).trans hx110_2
        replace hx110_3 := (HBr.out.cell (World.block_lt_of_cell? w _ hx110_3)).trans hx110_3
        obtain ⟨x, hx⟩ : ∃ x, x = rd_T51 l0 (i : Int) := ⟨_, rfl⟩
        rw [← hx] at hx110_0 hx110_1 hx110_2 hx110_3
        simp only [Int.toNat_natCast] at hx110_0 hx110_1 hx110_2 hx110_3
        have hxi : l0[i]? = some x := by rw [hx]; simp [rd_T51, List.getD, hi]
        clear hx
        have hno := chk_names c1 i x hxi
        have hdrop : l0.drop i = x :: l0.drop (i + 1) := by rw [List.drop_eq_getElem_cons hi]; congr 1; rw [List.getElem?_eq_getElem hi] at hxi; exact Option.some.inj hxi
        have qb : decide ((i : Int) < (l0.length : Int)) = true := decide_eq_true q110
        go_upto_region 7 with (first | ((with_reducible refine gate_dst (N := 5) rfl ?_); refine box_event ?hg (N := 5) ?hd (cs := #[.int .i64 0, .string (⟨#[]⟩ : ByteArray), .int .i64 0, .int .i64 0]) (t := 51) ?hr ?_; (case hd => rfl); (case hg => rfl); (case hr => first | (go_simp; done) | (go_simp; rfl)); intro gb hgb w9 hbox hb; have HM9 := Aside0.mk (Kd.R_below HM.out hb); have HB9 := Aside0.mk (below_step HBr.out hb); have BK := Aside0.mk hbox; have HG := Aside0.mk (by rw [hgb]; exact ⟨Kd.R_lt HM.out, below_size HBr.out⟩ : (∀ k, (Value.slice (some ⟨gm, 0, none⟩) l0.length cm).ownBlock = some k → k < gb) ∧ w.heap.size ≤ gb); clear hb hbox hgb; have hcz10_0 : w9.cell? ⟨gb, 0, none⟩ = some (.int .i64 0) := (blk_cell BK.out 0).trans rfl; have hcz10_1 : w9.cell? ⟨gb, 1, none⟩ = some (.string (⟨#[]⟩ : ByteArray)) := (blk_cell BK.out 1).trans rfl; have hcz10_2 : w9.cell? ⟨gb, 2, none⟩ = some (.int .i64 0) := (blk_cell BK.out 2).trans rfl; have hcz10_3 : w9.cell? ⟨gb, 3, none⟩ = some (.int .i64 0) := (blk_cell BK.out 3).trans rfl; have hfz10_0 := blk_frozen BK.out 0; have hfz10_1 := blk_frozen BK.out 1; have hfz10_2 := blk_frozen BK.out 2; have hfz10_3 := blk_frozen BK.out 3))
        have hgk : ∀ k, some k = (Value.slice (some ⟨gm, 0, none⟩) l0.length cm).ownBlock → k ≠ gb := fun k hk => by have := HG.out.1 k hk.symm; omega
        have n0_ := Aside0.mk (Kd.R_mono (Kd.R_far (p := ⟨gb, 3, none⟩) (Kd.R_far (p := ⟨gb, 2, none⟩) (Kd.R_far (p := ⟨gb, 1, none⟩) (Kd.R_far (p := ⟨gb, 0, none⟩) (Kd.R_tight rfl HM9.out) hgk (.int .i64 x.f0)) hgk (.string x.f1)) hgk (.int .i64 x.f2)) hgk (.int .i64 x.f3)) (ok' := fun _ => True) (fun _ _ => trivial))
        have n1_ := Aside0.mk (node_copied BK.out x)
        have n2_ := Aside0.mk (below_set (j := 3) (v := .int .i64 x.f3) (below_set (j := 2) (v := .int .i64 x.f2) (below_set (j := 1) (v := .string x.f1) (below_set (j := 0) (v := .int .i64 x.f0) HB9.out HG.out.2) HG.out.2) HG.out.2) HG.out.2)
        clear HM9 BK HB9 hcz10_0 hcz10_1 hcz10_2 hcz10_3 hfz10_0 hfz10_1 hfz10_2 hfz10_3
        generalize ((((w9.setCell ⟨gb, 0, none⟩ (.int .i64 x.f0)).setCell ⟨gb, 1, none⟩ (.string x.f1)).setCell ⟨gb, 2, none⟩ (.int .i64 x.f2)).setCell ⟨gb, 3, none⟩ (.int .i64 x.f3)) = w14 at n0_ n1_ n2_ ⊢
        have hk0 : w14.cell? ⟨gb, 0, none⟩ = some (.int .i64 x.f0) := (blk_cell n1_.out 0).trans rfl
        have hk1 : w14.cell? ⟨gb, 1, none⟩ = some (.string x.f1) := (blk_cell n1_.out 1).trans rfl
        have hk2 : w14.cell? ⟨gb, 2, none⟩ = some (.int .i64 x.f2) := (blk_cell n1_.out 2).trans rfl
        have hk3 : w14.cell? ⟨gb, 3, none⟩ = some (.int .i64 x.f3) := (blk_cell n1_.out 3).trans rfl
        have hA0 : 0 ≤ x.f2 := by rcases hno with h | h | h <;> omega
        have hA1 : x.f2 < (l0.length : Int) := by rcases hno with h | h | h <;> omega
        have hB0 : 0 ≤ x.f3 := by rcases hno with h | h | h <;> omega
        have hB1 : x.f3 < (l0.length : Int) := by rcases hno with h | h | h <;> omega
        obtain ⟨ha0, ha1, _, _⟩ := at_two n0_.out x.f2 hA0 hA1
        obtain ⟨hb0, hb1, _, _⟩ := at_two n0_.out x.f3 hB0 hB1
        obtain ⟨a, ha⟩ : ∃ a, a = (ms ++ List.replicate (l0.length - i) (false, false)).getD x.f2.toNat (false, false) := ⟨_, rfl⟩
        obtain ⟨b, hb⟩ : ∃ b, b = (ms ++ List.replicate (l0.length - i) (false, false)).getD x.f3.toNat (false, false) := ⟨_, rfl⟩
        rw [← ha] at ha0 ha1
        rw [← hb] at hb0 hb1
        have Ha := Aside0.mk ha
        have Hb := Aside0.mk hb
        have Hno := Aside0.mk hno
        have Hdrop := Aside0.mk hdrop
        clear ha hb hno hdrop hxi
        replace hA0 := eq_true hA0
        replace hA1 := eq_true hA1
        replace hB0 := eq_true hB0
        replace hB1 := eq_true hB1
        clear p110 q110
        have hk2a := fun o => cell_up o hk2
        have hk2b := fun o o' => cell_up o' (hk2a o)
        have hk3a := fun o => cell_up o hk3
        have hk3b := fun o o' => cell_up o' (hk3a o)
        have ha0a := fun o => cell_up o ha0
        have ha0b := fun o o' => cell_up o' (ha0a o)
        have ha1a := fun o => cell_up o ha1
        have ha1b := fun o o' => cell_up o' (ha1a o)
        have hb0a := fun o => cell_up o hb0
        have hb0b := fun o o' => cell_up o' (hb0a o)
        have hb1a := fun o => cell_up o hb1
        have hb1b := fun o o' => cell_up o' (hb1a o)
        go_cut [6, 7] from 17 to 73 (fun v6 v7 wc => ∃ (g6 g7 : Nat), v6 = .pointer (some ⟨g6, 0, none⟩) ∧ v7 = .pointer (some ⟨g7, 0, none⟩) ∧ Aside0 (wc.heap[g6]? = some (.cells #[.bool a.1, .bool a.2] 65 (0, 0)) ∧ wc.heap[g7]? = some (.cells #[.bool b.1, .bool b.2] 65 (0, 0)) ∧ Below w14.heap.size w14 wc))
        case first =>
          go_region
          · try go_wp2
            go_meet
            case rel =>
              refine ⟨_, _, rfl, rfl, ⟨?_, ?_, ?_⟩⟩
              · exact (two_boxes w14 _ _).1
              · exact (two_boxes w14 _ _).2
              · exact two_below w14 _ _ 1
          · try go_wp2
            go_meet
            case rel =>
              refine ⟨_, _, rfl, rfl, ⟨?_, ?_, ?_⟩⟩
              · exact (two_boxes w14 _ _).2
              · exact (two_boxes w14 _ _).1
              · exact two_below w14 _ _ 1
        case rest =>
          obtain ⟨g6, g7, rfl, rfl, HC⟩ := hcut
          have HM1 := Aside0.mk (Kd.R_below n0_.out HC.out.2.2)
          have BK1 := Aside0.mk (blk_below n1_.out HC.out.2.2)
          have HB1 := Aside0.mk (below_step n2_.out HC.out.2.2)
          clear n0_ n1_ n2_ hk0 hk1 hk2 hk3 ha0 ha1 hb0 hb1 hk2a hk2b hk3a hk3b ha0a ha0b ha1a ha1b hb0a hb0b hb1a hb1b hA0 hA1 hB0 hB1
          have hk1 : wc.cell? ⟨gb, 1, none⟩ = some (.string x.f1) := (blk_cell BK1.out 1).trans rfl
          have e0 : wc.cell? ⟨g6, 0, none⟩ = some (.bool a.1) := (blk_cell HC.out.1 0).trans rfl
          have e1 : wc.cell? ⟨g6, 1, none⟩ = some (.bool a.2) := (blk_cell HC.out.1 1).trans rfl
          have e2 : wc.cell? ⟨g7, 0, none⟩ = some (.bool b.1) := (blk_cell HC.out.2.1 0).trans rfl
          have e3 : wc.cell? ⟨g7, 1, none⟩ = some (.bool b.2) := (blk_cell HC.out.2.1 1).trans rfl
          have qi0 := eq_true (show (0 : Int) ≤ (i : Int) by omega)
          have qi1 := eq_true (show (i : Int) < (l0.length : Int) by omega)
          obtain ⟨s0, s1, s2, s3⟩ := at_two HM1.out (i : Int) (by omega) (by omega)
          simp only [Int.toNat_natCast] at s0 s1 s2 s3
          have hfin : ∀ p : Bool × Bool, p = mayVal x a b → Aside0 ((anN (l0.drop (i + 1)) (ms ++ [p])).bind (fun is => Option.map Prod.fst is.getLast?) = some r) ∧ Aside0 (Kd.R k65 65 ((wc.setCell ⟨gm, i * 2, none⟩ (.bool p.1)).setCell ⟨gm, i * 2 + 1, none⟩ (.bool p.2)) w.heap.size (fun _ => True) (.slice (some ⟨gm, 0, none⟩) l0.length cm) ((ms ++ [p]) ++ List.replicate (l0.length - (i + 1)) (false, false))) ∧ Aside0 (Below w.heap.size w ((wc.setCell ⟨gm, i * 2, none⟩ (.bool p.1)).setCell ⟨gm, i * 2 + 1, none⟩ (.bool p.2))) := by
            rintro p rfl
            have hml := HI.out.2
            subst hml
            refine ⟨⟨an_step Hno.out Ha.out Hb.out (by rw [← Hdrop.out]; exact HA.out)⟩, ⟨two_put HM1.out hi _⟩, ⟨below_set (below_set HB1.out hbm) hbm⟩⟩
          have Hfin := Aside0.mk hfin
          clear hfin Ha Hb Hdrop HA HM1 HM HBr HB1 qb
          have hk0 : wc.cell? ⟨gb, 0, none⟩ = some (.int .i64 x.f0) := (blk_cell BK1.out 0).trans rfl
          have hkk : x.f0 = 0 ∨ x.f0 = 1 ∨ x.f0 = 2 ∨ x.f0 = 3 := by rcases Hno.out with h | h | h <;> omega
          clear BK1 HC Hno
          obtain ⟨a1, a2⟩ := a
          rcases hkk with hk | hk | hk | hk
          · rw [hk] at hk0
            cases a1 <;> cases a2
            · go_wp2_with fail
              go_roundw
              case rel => exact ⟨i + 1, ms ++ [(!x.f1.toList == [105, 103, 110, 111, 114, 101], true)], by simp, ⟨by omega, by simp [HI.out.2]⟩, (Hfin.out (!x.f1.toList == [105, 103, 110, 111, 114, 101], true) (by simp [mayVal, join2, hk, ignore_list, bne])).1, (Hfin.out (!x.f1.toList == [105, 103, 110, 111, 114, 101], true) (by simp [mayVal, join2, hk, ignore_list, bne])).2.1, (Hfin.out (!x.f1.toList == [105, 103, 110, 111, 114, 101], true) (by simp [mayVal, join2, hk, ignore_list, bne])).2.2⟩
              case measure => simp [intOf]; omega
            · go_wp2_with fail
              go_roundw
              case rel => exact ⟨i + 1, ms ++ [(!x.f1.toList == [105, 103, 110, 111, 114, 101], true)], by simp, ⟨by omega, by simp [HI.out.2]⟩, (Hfin.out (!x.f1.toList == [105, 103, 110, 111, 114, 101], true) (by simp [mayVal, join2, hk, ignore_list, bne])).1, (Hfin.out (!x.f1.toList == [105, 103, 110, 111, 114, 101], true) (by simp [mayVal, join2, hk, ignore_list, bne])).2.1, (Hfin.out (!x.f1.toList == [105, 103, 110, 111, 114, 101], true) (by simp [mayVal, join2, hk, ignore_list, bne])).2.2⟩
              case measure => simp [intOf]; omega
            · go_wp2_with fail
              go_roundw
              case rel => exact ⟨i + 1, ms ++ [(!x.f1.toList == [105, 103, 110, 111, 114, 101], true)], by simp, ⟨by omega, by simp [HI.out.2]⟩, (Hfin.out (!x.f1.toList == [105, 103, 110, 111, 114, 101], true) (by simp [mayVal, join2, hk, ignore_list, bne])).1, (Hfin.out (!x.f1.toList == [105, 103, 110, 111, 114, 101], true) (by simp [mayVal, join2, hk, ignore_list, bne])).2.1, (Hfin.out (!x.f1.toList == [105, 103, 110, 111, 114, 101], true) (by simp [mayVal, join2, hk, ignore_list, bne])).2.2⟩
              case measure => simp [intOf]; omega
            · go_wp2_with fail
              go_roundw
              case rel => exact ⟨i + 1, ms ++ [(!x.f1.toList == [105, 103, 110, 111, 114, 101], true)], by simp, ⟨by omega, by simp [HI.out.2]⟩, (Hfin.out (!x.f1.toList == [105, 103, 110, 111, 114, 101], true) (by simp [mayVal, join2, hk, ignore_list, bne])).1, (Hfin.out (!x.f1.toList == [105, 103, 110, 111, 114, 101], true) (by simp [mayVal, join2, hk, ignore_list, bne])).2.1, (Hfin.out (!x.f1.toList == [105, 103, 110, 111, 114, 101], true) (by simp [mayVal, join2, hk, ignore_list, bne])).2.2⟩
              case measure => simp [intOf]; omega
          · rw [hk] at hk0
            cases a1 <;> cases a2
            · go_wp2_with fail
              go_roundw
              case rel => exact ⟨i + 1, ms ++ [(false, false)], by simp, ⟨by omega, by simp [HI.out.2]⟩, (Hfin.out (false, false) (by simp [mayVal, join2, hk, ignore_list, bne])).1, (Hfin.out (false, false) (by simp [mayVal, join2, hk, ignore_list, bne])).2.1, (Hfin.out (false, false) (by simp [mayVal, join2, hk, ignore_list, bne])).2.2⟩
              case measure => simp [intOf]; omega
            · go_wp2_with fail
              go_roundw
              case rel => exact ⟨i + 1, ms ++ [(true, false)], by simp, ⟨by omega, by simp [HI.out.2]⟩, (Hfin.out (true, false) (by simp [mayVal, join2, hk, ignore_list, bne])).1, (Hfin.out (true, false) (by simp [mayVal, join2, hk, ignore_list, bne])).2.1, (Hfin.out (true, false) (by simp [mayVal, join2, hk, ignore_list, bne])).2.2⟩
              case measure => simp [intOf]; omega
            · go_wp2_with fail
              go_roundw
              case rel => exact ⟨i + 1, ms ++ [(false, true)], by simp, ⟨by omega, by simp [HI.out.2]⟩, (Hfin.out (false, true) (by simp [mayVal, join2, hk, ignore_list, bne])).1, (Hfin.out (false, true) (by simp [mayVal, join2, hk, ignore_list, bne])).2.1, (Hfin.out (false, true) (by simp [mayVal, join2, hk, ignore_list, bne])).2.2⟩
              case measure => simp [intOf]; omega
            · go_wp2_with fail
              go_roundw
              case rel => exact ⟨i + 1, ms ++ [(true, true)], by simp, ⟨by omega, by simp [HI.out.2]⟩, (Hfin.out (true, true) (by simp [mayVal, join2, hk, ignore_list, bne])).1, (Hfin.out (true, true) (by simp [mayVal, join2, hk, ignore_list, bne])).2.1, (Hfin.out (true, true) (by simp [mayVal, join2, hk, ignore_list, bne])).2.2⟩
              case measure => simp [intOf]; omega
          · rw [hk] at hk0
            cases a1 <;> cases a2
            · go_wp2_with fail
              go_roundw
              case rel => exact ⟨i + 1, ms ++ [(false && b.1, false || b.2)], by simp, ⟨by omega, by simp [HI.out.2]⟩, (Hfin.out (false && b.1, false || b.2) (by simp [mayVal, join2, hk, ignore_list, bne])).1, (Hfin.out (false && b.1, false || b.2) (by simp [mayVal, join2, hk, ignore_list, bne])).2.1, (Hfin.out (false && b.1, false || b.2) (by simp [mayVal, join2, hk, ignore_list, bne])).2.2⟩
              case measure => simp [intOf]; omega
            · go_wp2_with fail
              go_roundw
              case rel => exact ⟨i + 1, ms ++ [(false && b.1, true || b.2)], by simp, ⟨by omega, by simp [HI.out.2]⟩, (Hfin.out (false && b.1, true || b.2) (by simp [mayVal, join2, hk, ignore_list, bne])).1, (Hfin.out (false && b.1, true || b.2) (by simp [mayVal, join2, hk, ignore_list, bne])).2.1, (Hfin.out (false && b.1, true || b.2) (by simp [mayVal, join2, hk, ignore_list, bne])).2.2⟩
              case measure => simp [intOf]; omega
            · go_wp2_with fail
              go_roundw
              case rel => exact ⟨i + 1, ms ++ [(true && b.1, false || b.2)], by simp, ⟨by omega, by simp [HI.out.2]⟩, (Hfin.out (true && b.1, false || b.2) (by simp [mayVal, join2, hk, ignore_list, bne])).1, (Hfin.out (true && b.1, false || b.2) (by simp [mayVal, join2, hk, ignore_list, bne])).2.1, (Hfin.out (true && b.1, false || b.2) (by simp [mayVal, join2, hk, ignore_list, bne])).2.2⟩
              case measure => simp [intOf]; omega
            · go_wp2_with fail
              go_roundw
              case rel => exact ⟨i + 1, ms ++ [(true && b.1, true || b.2)], by simp, ⟨by omega, by simp [HI.out.2]⟩, (Hfin.out (true && b.1, true || b.2) (by simp [mayVal, join2, hk, ignore_list, bne])).1, (Hfin.out (true && b.1, true || b.2) (by simp [mayVal, join2, hk, ignore_list, bne])).2.1, (Hfin.out (true && b.1, true || b.2) (by simp [mayVal, join2, hk, ignore_list, bne])).2.2⟩
              case measure => simp [intOf]; omega
          · rw [hk] at hk0
            cases a1 <;> cases a2
            · go_wp2_with fail
              go_roundw
              case rel => exact ⟨i + 1, ms ++ [(false || b.1, false && b.2)], by simp, ⟨by omega, by simp [HI.out.2]⟩, (Hfin.out (false || b.1, false && b.2) (by simp [mayVal, join2, hk, ignore_list, bne])).1, (Hfin.out (false || b.1, false && b.2) (by simp [mayVal, join2, hk, ignore_list, bne])).2.1, (Hfin.out (false || b.1, false && b.2) (by simp [mayVal, join2, hk, ignore_list, bne])).2.2⟩
              case measure => simp [intOf]; omega
            · go_wp2_with fail
              go_roundw
              case rel => exact ⟨i + 1, ms ++ [(false || b.1, true && b.2)], by simp, ⟨by omega, by simp [HI.out.2]⟩, (Hfin.out (false || b.1, true && b.2) (by simp [mayVal, join2, hk, ignore_list, bne])).1, (Hfin.out (false || b.1, true && b.2) (by simp [mayVal, join2, hk, ignore_list, bne])).2.1, (Hfin.out (false || b.1, true && b.2) (by simp [mayVal, join2, hk, ignore_list, bne])).2.2⟩
              case measure => simp [intOf]; omega
            · go_wp2_with fail
              go_roundw
              case rel => exact ⟨i + 1, ms ++ [(true || b.1, false && b.2)], by simp, ⟨by omega, by simp [HI.out.2]⟩, (Hfin.out (true || b.1, false && b.2) (by simp [mayVal, join2, hk, ignore_list, bne])).1, (Hfin.out (true || b.1, false && b.2) (by simp [mayVal, join2, hk, ignore_list, bne])).2.1, (Hfin.out (true || b.1, false && b.2) (by simp [mayVal, join2, hk, ignore_list, bne])).2.2⟩
              case measure => simp [intOf]; omega
            · go_wp2_with fail
              go_roundw
              case rel => exact ⟨i + 1, ms ++ [(true || b.1, true && b.2)], by simp, ⟨by omega, by simp [HI.out.2]⟩, (Hfin.out (true || b.1, true && b.2) (by simp [mayVal, join2, hk, ignore_list, bne])).1, (Hfin.out (true || b.1, true && b.2) (by simp [mayVal, join2, hk, ignore_list, bne])).2.1, (Hfin.out (true || b.1, true && b.2) (by simp [mayVal, join2, hk, ignore_list, bne])).2.2⟩
              case measure => simp [intOf]; omega
      · have hin : i = l0.length := by have := HI.out; omega
        have hml : ms.length = l0.length := by have := HI.out; omega
        subst hin
        have hd : decide ((l0.length : Int) < (l0.length : Int)) = false := by simp
        obtain ⟨s0, s1, _, _⟩ := at_two HM.out ((l0.length : Int) - 1) (by omega) (by omega)
        have hA := HA.out
        simp only [List.drop_length, anN, Option.bind_some, List.getLast?_eq_getElem?] at hA
        have hlt : ms.length - 1 < ms.length := by omega
        rw [List.getElem?_eq_getElem hlt] at hA
        have hr : (ms[ms.length - 1]'hlt).1 = r := Option.some.inj hA
        have hg : (ms ++ List.replicate (l0.length - l0.length) (false, false)).getD ((l0.length : Int) - 1).toNat (false, false) = ms[ms.length - 1]'hlt := by
          rw [Nat.sub_self, List.replicate_zero, List.append_nil, List.getD_eq_getElem?_getD, show ((l0.length : Int) - 1).toNat = ms.length - 1 by omega, List.getElem?_eq_getElem hlt]; rfl
        rw [hg, hr] at s0
        have s0' : wr.cell? ⟨gm, (l0.length - 1) * 2, none⟩ = some (.bool r) := by rwa [show ((l0.length : Int) - 1).toNat = l0.length - 1 by omega] at s0
        have q0 := eq_true (show (0 : Int) ≤ (l0.length : Int) - 1 by omega)
        have q1 := eq_true (show (l0.length : Int) - 1 < (l0.length : Int) by omega)
        clear hA hr hg s0 s1 HA HM
        go_wp2_with fail
        go_ret
        exact ⟨rfl, HBr.out⟩
  · rw [if_neg c1] at h
    obtain rfl := Option.some.inj h
    have c1b : (chk l0 != 0) = true := by simp [c1]
    go_enter Tryd.func16, Tryd.ntmps16
    go_wp2_with (first | ((with_reducible refine gate_callee (f := 12) rfl ?_); refine goesL_ (some 9) rfl rfl Tryd.func12 (by kernel_rfl) rfl #[.slice A0 l0.length c0] rfl (by (try simp only [List.map_toArray, List.map_cons, List.map_nil]); first | done | rfl) ?_; (with_reducible refine (expr_Check.calls _ _ l0 _ _ ?side1 ?side2 Hck.out).mono ?_); (case side1 => exact HR0.out); (case side2 => exact HC0.out); rintro e w4 ⟨rfl, hb⟩; refine ⟨_, rfl, ?_⟩; have HB4 := Aside0.mk (below_step HB.out hb); clear hb))
    go_ret
    exact ⟨rfl, HB4.out⟩
end Go.Proofs.YtfnikmkjhbbbgaaDoor.HExpr
