/- The contract of a logic's run, at the plain logic: the plain function it computes; no conditions. -/
import Derived.Test.YtfnikmkjhbbbgaaDoorTests
import Derived.StillTailTactics
set_option linter.unusedVariables false
set_option linter.unusedSimpArgs false
namespace Go.Proofs.YtfnikmkjhbbbgaaDoor.HExpr
open Go.RowKit Go.Proofs.YtfnikmkjhbbbgaaDoorW.PrintWords Go.Proofs.YtfnikmkjhbbbgaaDoorW.PrintLast Go.Proofs.YtfnikmkjhbbbgaaDoorW.PrintMore
theorem info4 : (Tryd.prog.info? 4).map (fun i => (i.zero, i.size, i.bytes)) = some (some (.bool false), 1, 1) := by kernel_rfl
/-- the plain logic of truth: the cells of its value -/
def plainV (g : Nat) : Array Value := #[.func (.func 35) #[] #[.pointer (some ⟨g, 0, none⟩)], .nilFunc, .func (.func 51) #[] #[], .func (.func 52) #[] #[], .func (.func 53) #[] #[]]
theorem set_mid1 {α : Type} (ms : List α) (n : Nat) (z p : α) (h : ms.length < n) : (ms ++ List.replicate (n - ms.length) z).set ms.length p = (ms ++ [p]) ++ List.replicate (n - (ms.length + 1)) z := by
  rw [show n - ms.length = (n - (ms.length + 1)) + 1 by omega, List.replicate_succ]
  simp
theorem gi_getD1 {α : Type} {ms zs : List α} {z : α} {i : Int} (h0 : 0 ≤ i) (h1 : i < ms.length) : gi ms i = some ((ms ++ zs).getD i.toNat z) := by
  have : i.toNat < ms.length := by omega
  unfold gi; rw [if_pos h0, List.getD_eq_getElem?_getD, List.getElem?_append_left this, List.getElem?_eq_getElem this]; rfl
/-- what a node is -/
def isVal (tags : List ByteArray) (x : S51) (a b : Bool) : Bool := if x.f0 = 0 then Lib.containsS tags x.f1 else join1 x.f0 a b
theorem ev_step {tags : List ByteArray} {x : S51} {rest : List S51} {ms zs : List Bool} {a b z : Bool} {β : Type} {F : List Bool → Option β} {r : β} (hno : nameOk (ms.length : Int) x)
    (ha : a = (ms ++ zs).getD x.f2.toNat z) (hb : b = (ms ++ zs).getD x.f3.toNat z) (h : (evN tags (x :: rest) ms).bind F = some r) : (evN tags rest (ms ++ [isVal tags x a b])).bind F = some r := by
  simp only [evN] at h
  unfold isVal
  rcases hno with ⟨h0, h1, h2⟩ | ⟨h0, h1, h2, h3⟩ | ⟨h0, h1, h2, h3, h4⟩
  · rw [if_pos h0] at h; rw [if_pos h0]; exact h
  · rw [if_neg (by omega), if_pos (by omega), gi_getD1 (zs := zs) (z := z) h1 h2, gi_getD1 (zs := zs) (z := z) (by omega) (by omega), ← ha, ← hb] at h
    rw [if_neg (by omega)]; exact h
  · rw [if_neg (by omega), if_pos (by omega), gi_getD1 (zs := zs) (z := z) h1 h2, gi_getD1 (zs := zs) (z := z) h3 h4, ← ha, ← hb] at h
    rw [if_neg (by omega)]; exact h
/-- the cell of an element of a row of one's own -/
theorem at_one {W : World} {base : Nat} {ok : Nat → Prop} {g n cap : Nat} {xs : List Bool} (h : Kd.bool.R 4 W base ok (.slice (some ⟨g, 0, none⟩) n cap) xs) (i : Int) (h0 : 0 ≤ i) (h1 : i < n) :
    W.cell? ⟨g, i.toNat, none⟩ = some (.bool (xs.getD i.toNat false)) ∧ W.frozen? ⟨g, i.toNat, none⟩ = false := by
  obtain ⟨c, _, hM, hc, hf⟩ := Kd.R_elem h false i h0 h1
  obtain rfl : c = [.bool (xs.getD i.toNat false)] := hM
  have e : Kd.bool.sz = 1 := rfl
  have h2 := hc 0 _ rfl
  have h3 := hf 0
  rw [e, Nat.mul_one, Nat.add_zero] at h2 h3
  exact ⟨h2, h3⟩
set_option maxHeartbeats 8000000 in
set_option maxRecDepth 100000 in
theorem run_calls (g : Nat) (A0 : Option Addr) (c0 : Nat) (l0 : List (S51)) (A1 : Option Addr) (c1 : Nat) (l1 : List ByteArray) (r : Bool) (w : World) (hr0 : Kd.C k51 w A0 l0.length l0) (hc0 : l0.length ≤ c0) (hr1 : Kd.C Kd.string w A1 l1.length l1) (hc1 : l1.length ≤ c1)
    (hg : w.heap[g]? = some (.cells #[.slice A1 l1.length c1] 23 (0, 0))) (hck : chk l0 = 0) (h : (evN l1 l0 []).bind (fun is => is.getLast?) = some r) :
    Calls Tryd.prog 37 #[.agg (plainV g), .slice A0 l0.length c0] w fun e w' => e = .returned (.bool r) ∧ Below w.heap.size w w' := by
  have hu51 := Tryd.underlying51
  have hu61 := Tryd.underlying61
  have HR0 := Aside0.mk hr0
  have HC0 := Aside0.mk hc0
  have HR1 := Aside0.mk hr1
  have HC1 := Aside0.mk hc1
  have HGT := Aside0.mk hg
  have H := Aside0.mk h
  have HCK := Aside0.mk hck
  clear hr0 hc0 hr1 hc1 hg h
  have HB := Aside0.mk (Below.refl w.heap.size w)
  have hlen := (chk_zero hck).1
  have hne := chk_some hck
  clear hck
  unfold plainV
  go_enter Tryd.func37, Tryd.ntmps37
  have hlp : 0 < l0.length := List.length_pos_iff.2 hne
  go_wp2_with (first | ((with_reducible refine gate_dst (N := 2) rfl ?_); refine box_event ?hg (N := 2) ?hd (cs := #[.func (.func 35) #[] #[.pointer (some ⟨g, 0, none⟩)], .nilFunc, .func (.func 51) #[] #[], .func (.func 52) #[] #[], .func (.func 53) #[] #[]]) (t := 61) ?hr ?_; (case hd => rfl); (case hg => rfl); (case hr => first | (go_simp; done) | (go_simp; rfl)); intro gp hgp w2 hbox hb; have HB2 := Aside0.mk (below_step HB.out hb); have BP := Aside0.mk hbox; have BG := Aside0.mk (blk_below HGT.out hb); have HGP := Aside0.mk (by rw [hgp]; exact below_size HB.out : w.heap.size ≤ gp); clear hb hbox hgp) | ((with_reducible refine gate_dst (N := 10) rfl ?_); refine Kd.R_make Kd.bool (w0 := w) w.heap.size 4 (by rfl) (N := 10) (by rfl) 81 (.tmp 9) (.tmp 9) rfl (l0.length : Int) (by go_simp) (by go_simp) Tryd.underlying81 (.bool false) 1 info4 rfl (by decide) (by decide) false (ok := fun _ => True) (okp := fun _ => True) ?hz (fun _ h => h) trivial (by omega) (by omega) HB2.out (below_size HB2.out) ?_; (case hz => rfl); intro v13 w13 ho hb hg_ hnew_; have BP3 := Aside0.mk (blk_grown (g := gp) BP.out hg_ (by simp)); have BG3 := Aside0.mk (blk_grown (g := g) BG.out hg_ (by simp)); clear hnew_; have HO := Aside0.mk ho; have HB5 := Aside0.mk hb; clear ho hb hg_ BP BG HB2 HB; refine Aside0.out ?_))
  refine Aside0.mk ?_
  obtain ⟨gm, cm, ev, hbm, _, _⟩ := Kd.R_form HO.out (by simp; omega)
  simp only [Int.toNat_natCast, List.length_replicate] at ev HO
  subst ev
  go_wp2_with fail
  go_loopw [13] (fun v13 w' => ∃ (i : Nat) (ms : List Bool), v13 = .int .i64 (i : Int) ∧ Aside0 (i ≤ l0.length ∧ ms.length = i) ∧ Aside0 ((evN l1 (l0.drop i) ms).bind (fun is => is.getLast?) = some r) ∧ Aside0 (Kd.R Kd.bool 4 w' w.heap.size (fun _ => True) (.slice (some ⟨gm, 0, none⟩) l0.length cm) (ms ++ List.replicate (l0.length - i) false)) ∧ Aside0 (w'.heap[gp]? = some (.cells #[.func (.func 35) #[] #[.pointer (some ⟨g, 0, none⟩)], .nilFunc, .func (.func 51) #[] #[], .func (.func 52) #[] #[], .func (.func 53) #[] #[]] 61 (0, 0))) ∧ Aside0 (Below w.heap.size w w')) (fun v13 w' => l0.length - (intOf v13).toNat)
  case atStart => exact ⟨0, [], rfl, ⟨by omega, rfl⟩, ⟨by simpa using H.out⟩, ⟨by simpa using HO.out⟩, BP3, HB5⟩
  case round =>
    obtain ⟨i, ms, rfl, HI, HA, HM, BPr, HBr⟩ := hrel
    clear HO HB5 BP3 BG3 H
    by_cases hi : i < l0.length
    · have p110 : (0 : Int) ≤ (i : Int) := by omega
      have q110 : (i : Int) < (l0.length : Int) := by omega
      obtain ⟨ad110, e110, hx110_0, hx110_1, hx110_2, hx110_3⟩ := at_T51 HR0.out (i : Int) p110 q110
      cases e110
      replace hx110_0 := (HBr.out.cell (World.block_lt_of_cell? w _ hx110_0)).trans hx110_0
      replace hx110_1 := (HBr.out.cell (World.block_lt_of_cell? w _ hx110_1)).trans hx110_1
      replace hx110_2 := (HBr.out.cell (World.block_lt_of_cell? w _ hx110_2)).trans hx110_2
      replace hx110_3 := (HBr.out.cell (World.block_lt_of_cell? w _ hx110_3)).trans hx110_3
      obtain ⟨x, hx⟩ : ∃ x, x = rd_T51 l0 (i : Int) := ⟨_, rfl⟩
      rw [← hx] at hx110_0 hx110_1 hx110_2 hx110_3
      simp only [Int.toNat_natCast] at hx110_0 hx110_1 hx110_2 hx110_3
      have hxi : l0[i]? = some x := by rw [hx]; simp [rd_T51, List.getD, hi]
      clear hx
      have hno := chk_names HCK.out i x hxi
      have hdrop : l0.drop i = x :: l0.drop (i + 1) := by rw [List.drop_eq_getElem_cons hi]; congr 1; rw [List.getElem?_eq_getElem hi] at hxi; exact Option.some.inj hxi
      have qb : decide ((i : Int) < (l0.length : Int)) = true := decide_eq_true q110
      go_upto_region 5 with (first | ((with_reducible refine gate_dst (N := 7) rfl ?_); refine box_event ?hg (N := 7) ?hd (cs := #[.int .i64 0, .string (⟨#[]⟩ : ByteArray), .int .i64 0, .int .i64 0]) (t := 51) ?hr ?_; (case hd => rfl); (case hg => rfl); (case hr => first | (go_simp; done) | (go_simp; rfl)); intro gb hgb w9 hbox hb; have n0_ := Aside0.mk (Kd.R_below HM.out hb); have n1_ := Aside0.mk (blk_below BPr.out hb); have n2_ := Aside0.mk (below_step HBr.out hb); have BK := Aside0.mk hbox; have HG := Aside0.mk (by rw [hgb]; exact below_size HBr.out : w.heap.size ≤ gb); have NB := Aside0.mk (by rw [hgb]; exact Nat.ne_of_lt (blk_lt BPr.out) : gp ≠ gb); clear hb hbox hgb HM HBr BPr; have hcz10_0 : w9.cell? ⟨gb, 0, none⟩ = some (.int .i64 0) := (blk_cell BK.out 0).trans rfl; have hcz10_1 : w9.cell? ⟨gb, 1, none⟩ = some (.string (⟨#[]⟩ : ByteArray)) := (blk_cell BK.out 1).trans rfl; have hcz10_2 : w9.cell? ⟨gb, 2, none⟩ = some (.int .i64 0) := (blk_cell BK.out 2).trans rfl; have hcz10_3 : w9.cell? ⟨gb, 3, none⟩ = some (.int .i64 0) := (blk_cell BK.out 3).trans rfl; have hfz10_0 := blk_frozen BK.out 0; have hfz10_1 := blk_frozen BK.out 1; have hfz10_2 := blk_frozen BK.out 2; have hfz10_3 := blk_frozen BK.out 3))
      have n3_ := Aside0.mk (Kd.R_mono (Kd.R_far (p := ⟨gb, 3, none⟩) (Kd.R_far (p := ⟨gb, 2, none⟩) (Kd.R_far (p := ⟨gb, 1, none⟩) (Kd.R_far (p := ⟨gb, 0, none⟩) (Kd.R_types n0_.out BK.out (by decide)) (fun _ hk => hk.2) (.int .i64 x.f0)) (fun _ hk => hk.2) (.string x.f1)) (fun _ hk => hk.2) (.int .i64 x.f2)) (fun _ hk => hk.2) (.int .i64 x.f3)) (fun _ hk => hk.1))
      have n4_ := Aside0.mk (blk_far (blk_far (blk_far (blk_far n1_.out (p := ⟨gb, 0, none⟩) NB.out (.int .i64 x.f0)) (p := ⟨gb, 1, none⟩) NB.out (.string x.f1)) (p := ⟨gb, 2, none⟩) NB.out (.int .i64 x.f2)) (p := ⟨gb, 3, none⟩) NB.out (.int .i64 x.f3))
      have n5_ := Aside0.mk (node_copied BK.out x)
      have n6_ := Aside0.mk (below_set (j := 3) (v := .int .i64 x.f3) (below_set (j := 2) (v := .int .i64 x.f2) (below_set (j := 1) (v := .string x.f1) (below_set (j := 0) (v := .int .i64 x.f0) n2_.out HG.out) HG.out) HG.out) HG.out)
      clear n0_ n1_ n2_ BK hcz10_0 hcz10_1 hcz10_2 hcz10_3 hfz10_0 hfz10_1 hfz10_2 hfz10_3
      generalize ((((w9.setCell ⟨gb, 0, none⟩ (.int .i64 x.f0)).setCell ⟨gb, 1, none⟩ (.string x.f1)).setCell ⟨gb, 2, none⟩ (.int .i64 x.f2)).setCell ⟨gb, 3, none⟩ (.int .i64 x.f3)) = w14 at n3_ n4_ n5_ n6_ ⊢
      have hk0 : w14.cell? ⟨gb, 0, none⟩ = some (.int .i64 x.f0) := (blk_cell n5_.out 0).trans rfl
      have hk1 : w14.cell? ⟨gb, 1, none⟩ = some (.string x.f1) := (blk_cell n5_.out 1).trans rfl
      have hk2 : w14.cell? ⟨gb, 2, none⟩ = some (.int .i64 x.f2) := (blk_cell n5_.out 2).trans rfl
      have hk3 : w14.cell? ⟨gb, 3, none⟩ = some (.int .i64 x.f3) := (blk_cell n5_.out 3).trans rfl
      have hg0 : w14.cell? ⟨gp, 0, none⟩ = some (.func (.func 35) #[] #[.pointer (some ⟨g, 0, none⟩)]) := (blk_cell n4_.out 0).trans rfl
      have hg2 : w14.cell? ⟨gp, 2, none⟩ = some (.func (.func 51) #[] #[]) := (blk_cell n4_.out 2).trans rfl
      have hg3 : w14.cell? ⟨gp, 3, none⟩ = some (.func (.func 52) #[] #[]) := (blk_cell n4_.out 3).trans rfl
      have hg4 : w14.cell? ⟨gp, 4, none⟩ = some (.func (.func 53) #[] #[]) := (blk_cell n4_.out 4).trans rfl
      have BGT := Aside0.mk (blk_below HGT.out n6_.out)
      have HRT := Aside0.mk (Kd.C_below HR1.out n6_.out)
      have hA0 : 0 ≤ x.f2 := by rcases hno with h | h | h <;> omega
      have hA1 : x.f2 < (l0.length : Int) := by rcases hno with h | h | h <;> omega
      have hB0 : 0 ≤ x.f3 := by rcases hno with h | h | h <;> omega
      have hB1 : x.f3 < (l0.length : Int) := by rcases hno with h | h | h <;> omega
      obtain ⟨ha0, _⟩ := at_one n3_.out x.f2 hA0 hA1
      obtain ⟨hb0, _⟩ := at_one n3_.out x.f3 hB0 hB1
      obtain ⟨a, ha⟩ : ∃ a, a = (ms ++ List.replicate (l0.length - i) false).getD x.f2.toNat false := ⟨_, rfl⟩
      obtain ⟨b, hb⟩ : ∃ b, b = (ms ++ List.replicate (l0.length - i) false).getD x.f3.toNat false := ⟨_, rfl⟩
      rw [← ha] at ha0
      rw [← hb] at hb0
      obtain ⟨s0, s1⟩ := at_one n3_.out (i : Int) (by omega) (by omega)
      simp only [Int.toNat_natCast] at s0 s1
      have hfin : ∀ W : World, Kd.R Kd.bool 4 W w.heap.size (fun _ => True) (.slice (some ⟨gm, 0, none⟩) l0.length cm) (ms ++ List.replicate (l0.length - i) false) → W.heap[gp]? = some (.cells #[.func (.func 35) #[] #[.pointer (some ⟨g, 0, none⟩)], .nilFunc, .func (.func 51) #[] #[], .func (.func 52) #[] #[], .func (.func 53) #[] #[]] 61 (0, 0)) → Below w.heap.size w W → ∀ p : Bool, p = isVal l1 x a b → Aside0 ((evN l1 (l0.drop (i + 1)) (ms ++ [p])).bind (fun is => is.getLast?) = some r) ∧ Aside0 (Kd.R Kd.bool 4 (W.setCell ⟨gm, i, none⟩ (.bool p)) w.heap.size (fun _ => True) (.slice (some ⟨gm, 0, none⟩) l0.length cm) ((ms ++ [p]) ++ List.replicate (l0.length - (i + 1)) false)) ∧ Aside0 ((W.setCell ⟨gm, i, none⟩ (.bool p)).heap[gp]? = some (.cells #[.func (.func 35) #[] #[.pointer (some ⟨g, 0, none⟩)], .nilFunc, .func (.func 51) #[] #[], .func (.func 52) #[] #[], .func (.func 53) #[] #[]] 61 (0, 0))) ∧ Aside0 (Below w.heap.size w (W.setCell ⟨gm, i, none⟩ (.bool p))) := by
        rintro W hW1 hW2 hW3 p rfl
        have hml := HI.out.2
        subst hml
        refine ⟨⟨ev_step (by exact hno) ha hb (by rw [← hdrop]; exact HA.out)⟩, ⟨?_⟩, ⟨?_⟩, ⟨below_set hW3 hbm⟩⟩
        · have h1 := Kd.R_putn hW1 (ms.length : Int) (isVal l1 x a b)
          rw [Int.toNat_natCast, set_mid1 ms l0.length _ _ hi] at h1
          exact h1
        · have hne := Kd.R_ne hW1 hW2 (by decide)
          exact blk_far hW2 (p := ⟨gm, ms.length, none⟩) (fun e => hne (by simp [Value.ownBlock, e])) _
      have Hfin := Aside0.mk hfin
      have Hno := Aside0.mk hno
      have qi0 := eq_true p110
      have qi1 := eq_true q110
      clear hfin ha hb hdrop HA hxi p110 q110 qb hno
      by_cases k0 : x.f0 = 0
      · rw [k0] at hk0
        have K0 := Aside0.mk k0
        clear k0
        go_wp2_with (go_at_call 35; refine (tagged_calls g A1 c1 l1 x.f1 _ BGT.out HRT.out HC1.out).mono ?_; rintro e w' ⟨rfl, rfl⟩)
        go_roundw
        case rel => exact ⟨i + 1, ms ++ [Lib.containsS l1 x.f1], by simp, ⟨by omega, by simp [HI.out.2]⟩, (Hfin.out _ n3_.out n4_.out n6_.out _ (by simp [isVal, K0.out])).1, (Hfin.out _ n3_.out n4_.out n6_.out _ (by simp [isVal, K0.out])).2.1, (Hfin.out _ n3_.out n4_.out n6_.out _ (by simp [isVal, K0.out])).2.2.1, (Hfin.out _ n3_.out n4_.out n6_.out _ (by simp [isVal, K0.out])).2.2.2⟩
        case measure => simp [intOf]; omega
      · have hkk : x.f0 = 1 ∨ x.f0 = 2 ∨ x.f0 = 3 := by rcases Hno.out with h | h | h <;> omega
        clear k0
        replace hA0 := eq_true hA0
        replace hA1 := eq_true hA1
        replace hB0 := eq_true hB0
        replace hB1 := eq_true hB1
        rcases hkk with hk | hk | hk
        · rw [hk] at hk0
          have HK := Aside0.mk hk
          clear hk
          go_upto_region 7 with fail
          refine wp_region_still_tail 19 (by kernel_rfl) (by kernel_rfl) ?_
          simp only [List.take_succ_cons, List.take_zero, List.drop_succ_cons, List.drop_zero]
          repeat still_step
          still_call (not_calls a b _)
          repeat still_step
          refine wpStill_nil ?_
          change wpList _ _ _ _ _ w14.drew
          have m3_ := Aside0.mk (Kd.R_drew n3_.out)
          have m4_ := Aside0.mk (blk_drew n4_.out)
          have m6_ := Aside0.mk (below_drew1 n6_.out)
          have t0 : w14.drew.cell? ⟨gm, i, none⟩ = _ := s0
          have t1 : w14.drew.frozen? ⟨gm, i, none⟩ = false := s1
          clear n3_ n4_ n5_ n6_ s0 s1 hk0 hk1 hk2 hk3 hg0 hg2 hg3 hg4 ha0 hb0 BGT HRT
          generalize w14.drew = w15 at m3_ m4_ m6_ t0 t1 ⊢
          go_wp2_with fail
          go_roundw
          case rel => exact ⟨i + 1, ms ++ [!a], by simp, ⟨by omega, by simp [HI.out.2]⟩, (Hfin.out w15 m3_.out m4_.out m6_.out _ (by simp [isVal, join1, HK.out])).1, (Hfin.out w15 m3_.out m4_.out m6_.out _ (by simp [isVal, join1, HK.out])).2.1, (Hfin.out w15 m3_.out m4_.out m6_.out _ (by simp [isVal, join1, HK.out])).2.2.1, (Hfin.out w15 m3_.out m4_.out m6_.out _ (by simp [isVal, join1, HK.out])).2.2.2⟩
          case measure => simp [intOf]; omega
        · rw [hk] at hk0
          have HK := Aside0.mk hk
          clear hk
          go_upto_region 7 with fail
          refine wp_region_still_tail 19 (by kernel_rfl) (by kernel_rfl) ?_
          simp only [List.take_succ_cons, List.take_zero, List.drop_succ_cons, List.drop_zero]
          repeat still_step
          still_call (and_calls a b _)
          repeat still_step
          refine wpStill_nil ?_
          change wpList _ _ _ _ _ w14.drew
          have m3_ := Aside0.mk (Kd.R_drew n3_.out)
          have m4_ := Aside0.mk (blk_drew n4_.out)
          have m6_ := Aside0.mk (below_drew1 n6_.out)
          have t0 : w14.drew.cell? ⟨gm, i, none⟩ = _ := s0
          have t1 : w14.drew.frozen? ⟨gm, i, none⟩ = false := s1
          clear n3_ n4_ n5_ n6_ s0 s1 hk0 hk1 hk2 hk3 hg0 hg2 hg3 hg4 ha0 hb0 BGT HRT
          generalize w14.drew = w15 at m3_ m4_ m6_ t0 t1 ⊢
          go_wp2_with fail
          go_roundw
          case rel => exact ⟨i + 1, ms ++ [a && b], by simp, ⟨by omega, by simp [HI.out.2]⟩, (Hfin.out w15 m3_.out m4_.out m6_.out _ (by simp [isVal, join1, HK.out])).1, (Hfin.out w15 m3_.out m4_.out m6_.out _ (by simp [isVal, join1, HK.out])).2.1, (Hfin.out w15 m3_.out m4_.out m6_.out _ (by simp [isVal, join1, HK.out])).2.2.1, (Hfin.out w15 m3_.out m4_.out m6_.out _ (by simp [isVal, join1, HK.out])).2.2.2⟩
          case measure => simp [intOf]; omega
        · rw [hk] at hk0
          have HK := Aside0.mk hk
          clear hk
          go_upto_region 7 with fail
          refine wp_region_still_tail 19 (by kernel_rfl) (by kernel_rfl) ?_
          simp only [List.take_succ_cons, List.take_zero, List.drop_succ_cons, List.drop_zero]
          repeat still_step
          still_call (or_calls a b _)
          repeat still_step
          refine wpStill_nil ?_
          change wpList _ _ _ _ _ w14.drew
          have m3_ := Aside0.mk (Kd.R_drew n3_.out)
          have m4_ := Aside0.mk (blk_drew n4_.out)
          have m6_ := Aside0.mk (below_drew1 n6_.out)
          have t0 : w14.drew.cell? ⟨gm, i, none⟩ = _ := s0
          have t1 : w14.drew.frozen? ⟨gm, i, none⟩ = false := s1
          clear n3_ n4_ n5_ n6_ s0 s1 hk0 hk1 hk2 hk3 hg0 hg2 hg3 hg4 ha0 hb0 BGT HRT
          generalize w14.drew = w15 at m3_ m4_ m6_ t0 t1 ⊢
          go_wp2_with fail
          go_roundw
          case rel => exact ⟨i + 1, ms ++ [a || b], by simp, ⟨by omega, by simp [HI.out.2]⟩, (Hfin.out w15 m3_.out m4_.out m6_.out _ (by simp [isVal, join1, HK.out])).1, (Hfin.out w15 m3_.out m4_.out m6_.out _ (by simp [isVal, join1, HK.out])).2.1, (Hfin.out w15 m3_.out m4_.out m6_.out _ (by simp [isVal, join1, HK.out])).2.2.1, (Hfin.out w15 m3_.out m4_.out m6_.out _ (by simp [isVal, join1, HK.out])).2.2.2⟩
          case measure => simp [intOf]; omega
    · have hin : i = l0.length := by have := HI.out; omega
      have hml : ms.length = l0.length := by have := HI.out; omega
      subst hin
      have hd : decide ((l0.length : Int) < (l0.length : Int)) = false := by simp
      obtain ⟨s0, _⟩ := at_one HM.out ((l0.length : Int) - 1) (by omega) (by omega)
      have hA := HA.out
      simp only [List.drop_length, evN, Option.bind_some, List.getLast?_eq_getElem?] at hA
      have hlt : ms.length - 1 < ms.length := by omega
      rw [List.getElem?_eq_getElem hlt] at hA
      have hr : (ms[ms.length - 1]'hlt) = r := Option.some.inj hA
      have hg : (ms ++ List.replicate (l0.length - l0.length) false).getD ((l0.length : Int) - 1).toNat false = ms[ms.length - 1]'hlt := by
        rw [Nat.sub_self, List.replicate_zero, List.append_nil, List.getD_eq_getElem?_getD, show ((l0.length : Int) - 1).toNat = ms.length - 1 by omega, List.getElem?_eq_getElem hlt]; rfl
      rw [hg, hr] at s0
      have s0' : wr.cell? ⟨gm, l0.length - 1, none⟩ = some (.bool r) := by rwa [show ((l0.length : Int) - 1).toNat = l0.length - 1 by omega] at s0
      have q0 := eq_true (show (0 : Int) ≤ (l0.length : Int) - 1 by omega)
      have q1 := eq_true (show (l0.length : Int) - 1 < (l0.length : Int) by omega)
      clear hA hr hg s0 HA HM
      go_wp2_with fail
      go_ret
      exact ⟨rfl, HBr.out⟩
end Go.Proofs.YtfnikmkjhbbbgaaDoor.HExpr
