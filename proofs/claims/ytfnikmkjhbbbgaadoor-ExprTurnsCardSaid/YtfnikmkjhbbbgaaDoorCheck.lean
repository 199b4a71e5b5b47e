/- The contract of expr.Check: the plain function it computes; no conditions. -/
import Derived.Test.YtfnikmkjhbbbgaaDoorChk
import Derived.Test.YtfnikmkjhbbbgaaDoorMax
set_option linter.unusedVariables false
set_option linter.unusedSimpArgs false
namespace Go.Proofs.YtfnikmkjhbbbgaaDoor.HExpr
open Go.RowKit Go.Proofs.YtfnikmkjhbbbgaaDoorW.PrintWords Go.Proofs.YtfnikmkjhbbbgaaDoorW.PrintLast Go.Proofs.YtfnikmkjhbbbgaaDoorW.PrintMore
attribute [local go_sem] max2_int min2_int max_two min_two max_three min_three max_four min_four
attribute [local go_sem high] eqA51
def expr_Check.f (l0 : List (S51)) : Option (Int) := if small l0 then some (chk l0) else none
/-- the places, the depths as they stand in memory: the first first -/
def ops (st : List (Int × Int)) : List Int := (st.map Prod.fst).reverse
def dps (st : List (Int × Int)) : List Int := (st.map Prod.snd).reverse
theorem ops_len (st : List (Int × Int)) : (ops st).length = st.length := by simp [ops]
theorem dps_len (st : List (Int × Int)) : (dps st).length = st.length := by simp [dps]
/-- how many nodes a node names -/
def nms (k : Int) : Nat := if k ≤ 0 then 0 else if k = 1 then 1 else 2
theorem nms_le (k : Int) : nms k ≤ 2 := by
  unfold nms
  repeat' split
  all_goals decide
theorem nms_eq (k m2 : Int) (h : (if 2 < k then 2 else k) = m2) : (if 0 < m2 then m2 else 0) = ((nms k : Nat) : Int) := by
  rw [← h]; unfold nms
  repeat' split
  all_goals omega
theorem nms_sub (n : Nat) (k : Int) (h : n ≤ 60) : IntKind.i64.wrap ((n : Int) - ((nms k : Nat) : Int)) = (n : Int) - ((nms k : Nat) : Int) := by
  have := nms_le k
  rw [i64_w]; exact w64 _ (by omega) (by omega)
/-- what makes a node none at once -/
def badNode (x : S51) (n : Nat) : Bool :=
  decide (x.f0 < 0) || decide (x.f0 > 3) || decide (n < nms x.f0) || ((x.f0 == 0) != tagB x.f1) || (decide (0 < x.f0) && decide (x.f1.toList ≠ []))
theorem node_copied {w9 : World} {gb : Nat} (BK : w9.heap[gb]? = some (.cells #[.int .i64 0, .string (⟨#[]⟩ : ByteArray), .int .i64 0, .int .i64 0] 51 (0, 0))) (x : S51) :
    ((((w9.setCell ⟨gb, 0, none⟩ (.int .i64 x.f0)).setCell ⟨gb, 1, none⟩ (.string x.f1)).setCell ⟨gb, 2, none⟩ (.int .i64 x.f2)).setCell ⟨gb, 3, none⟩ (.int .i64 x.f3)).heap[gb]? = some (.cells #[.int .i64 x.f0, .string x.f1, .int .i64 x.f2, .int .i64 x.f3] 51 (0, 0)) := by
  refine blk_put (cs := #[.int .i64 x.f0, .string x.f1, .int .i64 x.f2, .int .i64 0]) ?_ 3 _ rfl
  refine blk_put (cs := #[.int .i64 x.f0, .string x.f1, .int .i64 0, .int .i64 0]) ?_ 2 _ rfl
  refine blk_put (cs := #[.int .i64 x.f0, .string (⟨#[]⟩ : ByteArray), .int .i64 0, .int .i64 0]) ?_ 1 _ rfl
  exact blk_put (cs := #[.int .i64 0, .string (⟨#[]⟩ : ByteArray), .int .i64 0, .int .i64 0]) BK 0 _ rfl
theorem own_len (A : Option Addr) (n m c : Nat) : (Value.slice A n c).ownBlock = (Value.slice A m c).ownBlock := by cases A <;> rfl
/-- a node that is none at once is none -/
theorem chk1_bad {x : S51} {st : List (Int × Int)} {i : Int} (h : badNode x st.length = true) : chk1 i x st = none := by
  unfold badNode nms at h
  unfold chk1
  have ht0 : x.f1.toList ≠ [] → x.f1.size ≠ 0 := by
    intro h1 h2; apply h1; rw [ByteArray.toList_eq]; exact List.length_eq_zero_iff.1 (by simpa using h2)
  split
  · rename_i h0
    rw [if_neg]
    rintro ⟨h1, h2, h3⟩
    simp [h0, h1] at h
  · rename_i h0
    split
    · rename_i h1
      cases st with
      | nil => rfl
      | cons p st =>
        obtain ⟨a, d⟩ := p
        simp only
        rw [if_neg]
        rintro ⟨h2, h3, h4⟩
        have : tagB x.f1 = false := tagB_zero _ h2
        have h5 : x.f1.toList = [] := by rw [ByteArray.toList_eq]; exact List.length_eq_zero_iff.1 (by simpa using h2)
        simp [h1, this, h5] at h
    · rename_i h1
      split
      · rename_i h2
        match st with
        | [] => rfl
        | [_] => rfl
        | (b, db) :: (a, da) :: st =>
          simp only
          rw [if_neg]
          rintro ⟨h3, h4, h5⟩
          have h6 : tagB x.f1 = false := tagB_zero _ h3
          have h7 : x.f1.toList = [] := by rw [ByteArray.toList_eq]; exact List.length_eq_zero_iff.1 (by simpa using h3)
          rcases h2 with h2 | h2 <;> simp [h2, h6, h7] at h <;> omega
      · rfl
theorem bad_not {x : S51} {n : Nat} (h : badNode x n = false) : 0 ≤ x.f0 ∧ x.f0 ≤ 3 ∧ nms x.f0 ≤ n ∧ (x.f0 = 0 ↔ tagB x.f1 = true) ∧ (0 < x.f0 → x.f1.size = 0) := by
  unfold badNode at h
  simp only [Bool.or_eq_false_iff, Bool.and_eq_false_iff, decide_eq_false_iff_not, bne_eq_false_iff_eq] at h
  obtain ⟨⟨⟨⟨h1, h2⟩, h3⟩, h4⟩, h5⟩ := h
  refine ⟨by omega, by omega, by omega, ?_, ?_⟩
  · rw [← h4]; simp
  · intro h6
    rcases h5 with h5 | h5
    · exact absurd h6 h5
    · have : x.f1.toList = [] := by simpa using h5
      rw [ByteArray.toList_eq] at this
      have := congrArg List.length this
      simpa using this
/-- what a node wants of the stack: its names and its depth -/
def wantOk (x : S51) (st : List (Int × Int)) (A B d : Int) : Prop :=
  (nms x.f0 = 0 ∧ A = 0 ∧ B = 0 ∧ d = 1) ∨ (∃ a da rest, nms x.f0 = 1 ∧ st = (a, da) :: rest ∧ A = a ∧ B = 0 ∧ d = 1 + da) ∨
  (∃ b db a da rest, nms x.f0 = 2 ∧ st = (b, db) :: (a, da) :: rest ∧ A = a ∧ B = b ∧ d = 1 + max da db)
theorem chk1_want {x : S51} {st : List (Int × Int)} {i A B d : Int} (h : badNode x st.length = false) (hw : wantOk x st A B d) :
    chk1 i x st = if x.f2 = A ∧ x.f3 = B then some ((i, d) :: st.drop (nms x.f0)) else none := by
  obtain ⟨h0, h1, h2, h3, h4⟩ := bad_not h
  unfold chk1
  rcases hw with ⟨n0, rfl, rfl, rfl⟩ | ⟨a, da, rest, n1, rfl, rfl, rfl, rfl⟩ | ⟨b, db, a, da, rest, n2, rfl, rfl, rfl, rfl⟩
  · have hk : x.f0 = 0 := by unfold nms at n0; split at n0
                             · omega
                             · split at n0 <;> omega
    rw [if_pos hk, n0]; simp [h3.1 hk]
  · have hk : x.f0 = 1 := by unfold nms at n1; split at n1
                             · omega
                             · split at n1
                               · assumption
                               · omega
    rw [if_neg (by omega), if_pos hk, n1]; simp [h4 (by omega)]
  · have hk : x.f0 = 2 ∨ x.f0 = 3 := by unfold nms at n2; split at n2
                                        · omega
                                        · split at n2 <;> omega
    rw [if_neg (by omega), if_neg (by omega), if_pos hk, n2]; simp [h4 (by omega)]
theorem max_f1 (a : Int) : slices_Max_int_int.f [a] = some a := by
  unfold slices_Max_int_int.f
  rw [if_neg (by simp)]
  simp [Lib.maxOf]
theorem max_f2 (a b : Int) : slices_Max_int_int.f [a, b] = some (max a b) := by
  unfold slices_Max_int_int.f
  rw [if_neg (by simp)]
  simp [Lib.maxOf]
theorem st_one {st : List (Int × Int)} (h : 1 ≤ st.length) : ∃ a da rest, st = (a, da) :: rest := by
  match st with
  | [] => simp at h
  | (a, da) :: rest => exact ⟨a, da, rest, rfl⟩
theorem st_two {st : List (Int × Int)} (h : 2 ≤ st.length) : ∃ b db a da rest, st = (b, db) :: (a, da) :: rest := by
  match st with
  | [] => simp at h
  | [_] => simp at h
  | (b, db) :: (a, da) :: rest => exact ⟨b, db, a, da, rest, rfl⟩
def expr_Check.T21 : Bool × List (List Nat × List Nat) := (true, [([], []), ([], []), ([0, 1], [0, 1]), ([], []), ([3], [3]), ([2, 4], [2, 4]), ([], []), ([], []), ([6, 7], [6, 7]), ([], []), ([9], [9]), ([8, 10, 5], [8, 10]), ([5, 11, 0, 1, 2, 3, 4, 5], [0, 5]), ([11, 12, 0, 1, 2, 3, 4, 5, 6, 7, 8, 9, 10, 11, 12], [6, 11])])
def expr_Check.B21 : List Nat := [0, 0, 3, 0, 8, 31, 0, 0, 192, 0, 512, 2047, 4095, 8191]
theorem expr_Check.tab21 : rtab .any (opsOf Tryd.f12 21) = expr_Check.T21 := by kernel_rfl
theorem expr_Check.bits21 : waitsOk expr_Check.T21.2 expr_Check.B21 = true := by kernel_rfl
theorem rev_drop {α : Type} (l : List α) (n : Nat) (h : n ≤ l.length) : (l.drop n).reverse = l.reverse.take (l.length - n) := by
  rw [List.reverse_drop]
theorem want_deep {x : S51} {st : List (Int × Int)} {A B d : Int} {i : Int} (hw : wantOk x st A B d) (h : ∀ p ∈ st, 0 ≤ p.2 ∧ p.2 ≤ i) : (0 ≤ d ∧ d ≤ i + 1) ∨ (st = [] ∧ d = 1) ∨ (nms x.f0 = 0 ∧ d = 1) := by
  rcases hw with ⟨n0, rfl, rfl, rfl⟩ | ⟨a, da, rest, n1, rfl, rfl, rfl, rfl⟩ | ⟨b, db, a, da, rest, n2, rfl, rfl, rfl, rfl⟩
  · exact .inr (.inr ⟨n0, rfl⟩)
  · have := h _ List.mem_cons_self
    simp only at this
    exact .inl (by omega)
  · have h1 := h _ (List.mem_cons_of_mem _ List.mem_cons_self)
    have h2 := h _ List.mem_cons_self
    simp only at h1 h2
    exact .inl (by omega)
theorem tag_quiet (s : ByteArray) (b : Bool) (w : World) (h : expr_Tag.f (s.size + 1) s = some b) : Calls Tryd.prog 31 #[.string s] w fun e w' => e = .returned (.bool b) ∧ ∃ m, w' = w.drewN m :=
  (expr_Tag.calls _ s b w h).mono fun _ _ ⟨he, hd⟩ => ⟨he, hd.out⟩
/-- the answer of the first test -/
theorem bad_pass {x : S51} {n : Nat} (h0 : ¬ x.f0 < 0) (h1 : ¬ 3 < x.f0) (h2 : nms x.f0 ≤ n) (h3 : ((x.f0 == 0) != tagB x.f1) = false) : badNode x n = (decide (0 < x.f0) && decide (x.f1.toList ≠ [])) := by
  unfold badNode; rw [h3]; simp [h0, h1, Nat.not_lt.2 h2]
set_option maxHeartbeats 8000000 in
set_option maxRecDepth 100000 in
theorem expr_Check.calls (A0 : Option Addr) (c0 : Nat) (l0 : List (S51)) (r : Int) (w : World) (hr0 : Kd.C k51 w A0 l0.length l0) (hc0 : l0.length ≤ c0) (h : expr_Check.f l0 = some r) :
    Calls Tryd.prog 12 #[.slice A0 l0.length c0] w fun e w' => e = .returned (.int .i64 r) ∧ Below w.heap.size w w' := by
  have hu51 := Tryd.underlying51
  unfold expr_Check.f at h
  split at h
  · rename_i hsm
    obtain rfl := Option.some.inj h
    clear h
    have HR0 := Aside0.mk hr0
    have HC0 := Aside0.mk hc0
    clear hr0 hc0
    have HB := Aside0.mk (Below.refl w.heap.size w)
    by_cases c2 : 60 < l0.length
    · have c2b0 : decide (60 < (l0.length : Int)) = true := decide_eq_true (by omega)
      have c2b1 : decide (60 < l0.length) = true := decide_eq_true (by omega)
      have hck : chk l0 = 120 := by unfold chk; rw [if_pos c2]
      rw [hck]
      go_enter Tryd.func12, Tryd.ntmps12
      go_wp2
      go_ret
      exact ⟨rfl, HB.out⟩
    · have c2b0 : decide (60 < (l0.length : Int)) = false := decide_eq_false (by omega)
      have c2b1 : decide (60 < l0.length) = false := decide_eq_false (by omega)
      have hlen : l0.length ≤ 60 := by omega
      obtain ⟨r, hr⟩ : ∃ r, r = chk l0 := ⟨_, rfl⟩
      have H0 : chkE (chkN l0 0 []) = r := by rw [hr]; unfold chk; rw [if_neg c2]
      rw [← hr]
      have Hsm := Aside0.mk hsm
      clear hr hsm
      have H := Aside0.mk H0
      clear H0 c2
      go_enter Tryd.func12, Tryd.ntmps12
      go_wp2
      go_loopw [3, 4, 16] (fun v3 v4 v16 w' => ∃ (i : Nat) (st : List (Int × Int)), v16 = .int .i64 (i : Int) ∧ Aside0 (i ≤ l0.length ∧ st.length ≤ i ∧ (∀ p ∈ st, 0 ≤ p.2 ∧ p.2 ≤ (i : Int))) ∧ Aside0 (chkE (chkN (l0.drop i) (i : Int) st) = r) ∧ Aside0 (Kd.R (Kd.int .i64) 3 w' w.heap.size (fun k_ => some k_ ≠ (v4 : Value).ownBlock) v3 (ops st)) ∧ Aside0 (Kd.R (Kd.int .i64) 3 w' w.heap.size (fun k_ => some k_ ≠ (v3 : Value).ownBlock) v4 (dps st)) ∧ Aside0 (Below w.heap.size w w')) (fun v3 v4 v16 w' => l0.length - (intOf v16).toNat)
      case atStart => exact ⟨0, [], rfl, ⟨by simp⟩, ⟨by simpa using H.out⟩, ⟨Kd.R_nil _ _ _ _ _⟩, ⟨Kd.R_nil _ _ _ _ _⟩, HB⟩
      case round =>
        obtain ⟨i, st, rfl, HI, HA, HO_3, HO_4, HBr⟩ := hrel
        clear HB H c2b0 c2b1
        by_cases hi : i < l0.length
        · have p110 : (0 : Int) ≤ (i : Int) := by omega
          have q110 : (i : Int) < (l0.length : Int) := by omega
          obtain ⟨ad110, e110, hx110_0, hx110_1, hx110_2, hx110_3⟩ := at_T51 HR0.out (i : Int) p110 q110
          cases e110
          replace hx110_0 := (HBr.out.cell (World.block_lt_of_cell? w _ hx110_0)).trans hx110_0
          replace hx110_1 := (HBr.out.cell (World.block_lt_of_cell? w _ hx110_1)).trans hx110_1
          replace hx110_2 := (HBr.out.cell (World.block_lt_of_cell? w _ hx110_2)).trans hx110_2
          replace hx110_3 := (HBr.out.cell (World.block_lt_of_cell? w _ hx110_3)).trans hx110_3
          obtain ⟨x, hx⟩ : ∃ x, x = rd_T51 l0 (i : Int) := ⟨_, rfl⟩
          rw [← hx] at hx110_0 hx110_1 hx110_2 hx110_3
          simp only [Int.toNat_natCast] at hx110_0 hx110_1 hx110_2 hx110_3
          have hxi : l0[i]? = some x := by rw [hx]; simp [rd_T51, List.getD, hi]
          clear hx
          have htag : x.f1.size ≤ 140737488351232 := Hsm.out x (List.mem_of_getElem? hxi)
          have Htag := Aside0.mk (tag_ends x.f1 htag)
          clear htag
          have hdrop : l0.drop i = x :: l0.drop (i + 1) := by rw [List.drop_eq_getElem_cons hi]; congr 1; rw [List.getElem?_eq_getElem hi] at hxi; exact Option.some.inj hxi
          have HA1 := Aside0.mk (show chkE ((chk1 (i : Int) x st).bind (fun s => chkN (l0.drop (i + 1)) ((i : Int) + 1) s)) = r by rw [← HA.out, hdrop]; rfl)
          clear hdrop hxi HA
          have qb : decide ((i : Int) < (l0.length : Int)) = true := decide_eq_true q110
          obtain ⟨m2, hm2⟩ : ∃ m2 : Int, (if 2 < x.f0 then 2 else x.f0) = m2 := ⟨_, rfl⟩
          have hnm := nms_eq x.f0 m2 hm2
          have hkk := nms_sub (ops st).length x.f0 (by rw [ops_len]; have := HI.out; omega)
          obtain ⟨Ao11, co11, eo11⟩ := Kd.R_slice HO_3.out
          subst eo11
          go_upto_region 9 with (first | ((with_reducible refine gate_dst (N := 6) rfl ?_); refine box_event ?hg (N := 6) ?hd (cs := #[.int .i64 0, .string (⟨#[]⟩ : ByteArray), .int .i64 0, .int .i64 0]) (t := 51) ?hr ?_; (case hd => rfl); (case hg => rfl); (case hr => first | (go_simp; done) | (go_simp; rfl)); intro gb hgb w9 hbox hb; have n0_ := Aside0.mk (Kd.R_below HO_3.out hb); have n1_ := Aside0.mk (Kd.R_below HO_4.out hb); have n2_ := Aside0.mk (below_step HBr.out hb); have BK := Aside0.mk hbox; have HG := Aside0.mk (by rw [hgb]; exact below_size HBr.out : w.heap.size ≤ gb); clear hb hbox hgb HO_3 HO_4 HBr; have hcz10_0 : w9.cell? ⟨gb, 0, none⟩ = some (.int .i64 0) := (blk_cell BK.out 0).trans rfl; have hcz10_1 : w9.cell? ⟨gb, 1, none⟩ = some (.string (⟨#[]⟩ : ByteArray)) := (blk_cell BK.out 1).trans rfl; have hcz10_2 : w9.cell? ⟨gb, 2, none⟩ = some (.int .i64 0) := (blk_cell BK.out 2).trans rfl; have hcz10_3 : w9.cell? ⟨gb, 3, none⟩ = some (.int .i64 0) := (blk_cell BK.out 3).trans rfl; have hfz10_0 := blk_frozen BK.out 0; have hfz10_1 := blk_frozen BK.out 1; have hfz10_2 := blk_frozen BK.out 2; have hfz10_3 := blk_frozen BK.out 3))
          have n3_ := Aside0.mk (Kd.R_mono (Kd.R_far (p := ⟨gb, 3, none⟩) (Kd.R_far (p := ⟨gb, 2, none⟩) (Kd.R_far (p := ⟨gb, 1, none⟩) (Kd.R_far (p := ⟨gb, 0, none⟩) (Kd.R_types n0_.out BK.out (by decide)) (fun _ hk => hk.2) (.int .i64 x.f0)) (fun _ hk => hk.2) (.string x.f1)) (fun _ hk => hk.2) (.int .i64 x.f2)) (fun _ hk => hk.2) (.int .i64 x.f3)) (fun _ hk => hk.1))
          have n4_ := Aside0.mk (Kd.R_mono (Kd.R_far (p := ⟨gb, 3, none⟩) (Kd.R_far (p := ⟨gb, 2, none⟩) (Kd.R_far (p := ⟨gb, 1, none⟩) (Kd.R_far (p := ⟨gb, 0, none⟩) (Kd.R_types n1_.out BK.out (by decide)) (fun _ hk => hk.2) (.int .i64 x.f0)) (fun _ hk => hk.2) (.string x.f1)) (fun _ hk => hk.2) (.int .i64 x.f2)) (fun _ hk => hk.2) (.int .i64 x.f3)) (fun _ hk => hk.1))
          have n5_ := Aside0.mk (node_copied BK.out x)
          have n6_ := Aside0.mk (below_set (j := 3) (v := .int .i64 x.f3) (below_set (j := 2) (v := .int .i64 x.f2) (below_set (j := 1) (v := .string x.f1) (below_set (j := 0) (v := .int .i64 x.f0) n2_.out HG.out) HG.out) HG.out) HG.out)
          clear n0_ n1_ n2_ BK hcz10_0 hcz10_1 hcz10_2 hcz10_3 hfz10_0 hfz10_1 hfz10_2 hfz10_3
          generalize ((((w9.setCell ⟨gb, 0, none⟩ (.int .i64 x.f0)).setCell ⟨gb, 1, none⟩ (.string x.f1)).setCell ⟨gb, 2, none⟩ (.int .i64 x.f2)).setCell ⟨gb, 3, none⟩ (.int .i64 x.f3)) = w14 at n3_ n4_ n5_ n6_ ⊢
          go_cut [59] from 17 to 102 (fun v59 wc => v59 = .bool (badNode x (ops st).length) ∧ Aside0 (Kd.R (Kd.int .i64) 3 wc w.heap.size (fun k_ => some k_ ≠ (u4 : Value).ownBlock) (.slice Ao11 (ops st).length co11) (ops st)) ∧ Aside0 (Kd.R (Kd.int .i64) 3 wc w.heap.size (fun k_ => some k_ ≠ ((.slice Ao11 (ops st).length co11) : Value).ownBlock) u4 (dps st)) ∧ Aside0 (wc.heap[gb]? = some (.cells #[.int .i64 x.f0, .string x.f1, .int .i64 x.f2, .int .i64 x.f3] 51 (0, 0))) ∧ Aside0 (Below w.heap.size w wc))
          case first =>
            have hk0 : w14.cell? ⟨gb, 0, none⟩ = some (.int .i64 x.f0) := (blk_cell n5_.out 0).trans rfl
            have hk1 : w14.cell? ⟨gb, 1, none⟩ = some (.string x.f1) := (blk_cell n5_.out 1).trans rfl
            by_cases c12 : x.f0 < 0
            · have c12b : decide (x.f0 < 0) = true := decide_eq_true c12
              go_quiet (fail)
              go_wp2
              go_meet
              case rel => exact ⟨by simp [badNode, c12], ⟨Kd.R_drewN n3_.out _⟩, ⟨Kd.R_drewN n4_.out _⟩, ⟨blk_drewN n5_.out _⟩, ⟨pw_below_drewN n6_.out _⟩⟩
            · have c12b : decide (x.f0 < 0) = false := decide_eq_false c12
              by_cases c15 : 3 < x.f0
              · have c15b : decide (3 < x.f0) = true := decide_eq_true c15
                go_quiet (fail)
                go_wp2
                go_meet
                case rel => exact ⟨by simp [badNode, c15], ⟨Kd.R_drewN n3_.out _⟩, ⟨Kd.R_drewN n4_.out _⟩, ⟨blk_drewN n5_.out _⟩, ⟨pw_below_drewN n6_.out _⟩⟩
              · have c15b : decide (3 < x.f0) = false := decide_eq_false c15
                by_cases c18 : (ops st).length < nms x.f0
                · have c18b : decide (((ops st).length : Int) - ((nms x.f0 : Nat) : Int) < 0) = true := decide_eq_true (by omega)
                  go_quiet (fail)
                  go_wp2
                  go_meet
                  case rel => exact ⟨by simp [badNode, c18], ⟨Kd.R_drewN n3_.out _⟩, ⟨Kd.R_drewN n4_.out _⟩, ⟨blk_drewN n5_.out _⟩, ⟨pw_below_drewN n6_.out _⟩⟩
                · have c18b : decide (((ops st).length : Int) - ((nms x.f0 : Nat) : Int) < 0) = false := decide_eq_false (by omega)
                  by_cases c0 : x.f0 = 0
                  · have c0b : (x.f0 == 0) = true := by simp [c0]
                    have c0c : decide (0 < x.f0) = false := decide_eq_false (by omega)
                    have hb0 := bad_pass (n := (ops st).length) c12 c15 (by omega)
                    have C0 := Aside0.mk c0
                    clear c0
                    cases hT : tagB x.f1 with
                    | true =>
                      rw [hT] at Htag
                      have HB0 := Aside0.mk hb0
                      have HT := Aside0.mk hT
                      clear hb0 hT
                      go_quiet ((go_at_call 31; exact Calls.quiet_of (tag_quiet x.f1 _ _ Htag.out)))
                      go_wp2
                      go_meet
                      case rel => exact ⟨by rw [HB0.out (by simp [C0.out, HT.out])]; simp [C0.out], ⟨Kd.R_drewN n3_.out _⟩, ⟨Kd.R_drewN n4_.out _⟩, ⟨blk_drewN n5_.out _⟩, ⟨pw_below_drewN n6_.out _⟩⟩
                    | false =>
                      rw [hT] at Htag
                      have HB0 := Aside0.mk hb0
                      have HT := Aside0.mk hT
                      clear hb0 hT
                      go_quiet ((go_at_call 31; exact Calls.quiet_of (tag_quiet x.f1 _ _ Htag.out)))
                      go_wp2
                      go_meet
                      case rel => exact ⟨by simp [badNode, C0.out, HT.out], ⟨Kd.R_drewN n3_.out _⟩, ⟨Kd.R_drewN n4_.out _⟩, ⟨blk_drewN n5_.out _⟩, ⟨pw_below_drewN n6_.out _⟩⟩
                  · have c0b : (x.f0 == 0) = false := by simp [c0]
                    have c0c : decide (0 < x.f0) = true := decide_eq_true (by omega)
                    have hb0 := bad_pass (n := (ops st).length) c12 c15 (by omega)
                    have hpos : 0 < x.f0 := by omega
                    have C0 := Aside0.mk c0
                    have HP := Aside0.mk hpos
                    clear c0 hpos
                    cases hT : tagB x.f1 with
                    | true =>
                      rw [hT] at Htag
                      have HB0 := Aside0.mk hb0
                      have HT := Aside0.mk hT
                      clear hb0 hT
                      go_quiet ((go_at_call 31; exact Calls.quiet_of (tag_quiet x.f1 _ _ Htag.out)))
                      go_wp2
                      go_meet
                      case rel => exact ⟨by simp [badNode, C0.out, HT.out], ⟨Kd.R_drewN n3_.out _⟩, ⟨Kd.R_drewN n4_.out _⟩, ⟨blk_drewN n5_.out _⟩, ⟨pw_below_drewN n6_.out _⟩⟩
                    | false =>
                      rw [hT] at Htag
                      have HB0 := Aside0.mk hb0
                      have HT := Aside0.mk hT
                      clear hb0 hT
                      go_quiet ((go_at_call 31; exact Calls.quiet_of (tag_quiet x.f1 _ _ Htag.out)))
                      go_wp2
                      go_meet
                      case rel => exact ⟨by rw [HB0.out (by simp [C0.out, HT.out])]; simp [HP.out]; cases x.f1.toList <;> simp, ⟨Kd.R_drewN n3_.out _⟩, ⟨Kd.R_drewN n4_.out _⟩, ⟨blk_drewN n5_.out _⟩, ⟨pw_below_drewN n6_.out _⟩⟩
          case rest =>
            obtain ⟨rfl, HO_3, HO_4, BK, HB⟩ := hcut
            clear n3_ n4_ n5_ n6_
            by_cases hbad : badNode x (ops st).length = true
            · have hr : r = 120 := by
                have := HA1.out
                rw [chk1_bad (by rw [← ops_len]; exact hbad)] at this
                exact this.symm
              rw [hbad]
              go_wp2
              go_ret
              exact ⟨by rw [hr]; rfl, HB.out⟩
            · have hbf : badNode x (ops st).length = false := by simpa using hbad
              clear hbad
              have Hbf := Aside0.mk hbf
              rw [hbf]
              clear hbf
              have hnz : nms x.f0 ≤ (ops st).length := (bad_not Hbf.out).2.2.1
              obtain ⟨kz, hkz⟩ : ∃ kz : Int, ((ops st).length : Int) - ((nms x.f0 : Nat) : Int) = kz := ⟨_, rfl⟩
              obtain ⟨nz, hnzz⟩ : ∃ nz : Int, ((nms x.f0 : Nat) : Int) = nz := ⟨_, rfl⟩
              rw [hkz, hnzz]
              have Hkz := Aside0.mk hkz
              have Hnz := Aside0.mk hnzz
              clear hkz hnzz hkk hnm hm2 hnz
              have hcx0 : wc.cell? ⟨gb, 0, none⟩ = some (.int .i64 x.f0) := (blk_cell BK.out 0).trans rfl
              have hcx1 : wc.cell? ⟨gb, 1, none⟩ = some (.string x.f1) := (blk_cell BK.out 1).trans rfl
              have hfx := HG.out
              go_upto_region 13 with (first | ((with_reducible refine gate_dst (N := 10) rfl ?_); refine box_event ?hg (N := 10) ?hd (cs := #[.int .i64 0, .string (⟨#[]⟩ : ByteArray), .int .i64 0, .int .i64 0]) (t := 51) ?hr ?_; (case hd => rfl); (case hg => rfl); (case hr => first | (go_simp; done) | (go_simp; rfl)); intro gw hgw w9 hbox hb; have n0_ := Aside0.mk (Kd.R_below HO_3.out hb); have n1_ := Aside0.mk (Kd.R_below HO_4.out hb); have n2_ := Aside0.mk (below_step HB.out hb); have n3_ := Aside0.mk (blk_below BK.out hb); have BW := Aside0.mk hbox; have HGW := Aside0.mk (by rw [hgw]; exact below_size HB.out : w.heap.size ≤ gw); have NB := Aside0.mk (by rw [hgw]; exact Nat.ne_of_lt (blk_lt BK.out) : gb ≠ gw); clear hb hbox hgw HO_3 HO_4 HB BK; have hcz10_0 : w9.cell? ⟨gw, 0, none⟩ = some (.int .i64 0) := (blk_cell BW.out 0).trans rfl; have hcz10_1 : w9.cell? ⟨gw, 1, none⟩ = some (.string (⟨#[]⟩ : ByteArray)) := (blk_cell BW.out 1).trans rfl; have hcz10_2 : w9.cell? ⟨gw, 2, none⟩ = some (.int .i64 0) := (blk_cell BW.out 2).trans rfl; have hcz10_3 : w9.cell? ⟨gw, 3, none⟩ = some (.int .i64 0) := (blk_cell BW.out 3).trans rfl; have hfz10_0 := blk_frozen BW.out 0; have hfz10_1 := blk_frozen BW.out 1; have hfz10_2 := blk_frozen BW.out 2; have hfz10_3 := blk_frozen BW.out 3))
              clear hcx0 hcx1
              obtain ⟨y, hy⟩ : ∃ y : S51, y = ⟨x.f0, x.f1, 0, 0⟩ := ⟨_, rfl⟩
              have m3_ : Aside0 (Kd.R (Kd.int .i64) 3 ((((w9.setCell ⟨gw, 0, none⟩ (.int .i64 x.f0)).setCell ⟨gw, 1, none⟩ (.string x.f1)).setCell ⟨gw, 2, none⟩ (.int .i64 0)).setCell ⟨gw, 3, none⟩ (.int .i64 0)) w.heap.size (fun k_ => some k_ ≠ (u4 : Value).ownBlock) (.slice Ao11 (ops st).length co11) (ops st)) := ⟨Kd.R_mono (Kd.R_far (p := ⟨gw, 3, none⟩) (Kd.R_far (p := ⟨gw, 2, none⟩) (Kd.R_far (p := ⟨gw, 1, none⟩) (Kd.R_far (p := ⟨gw, 0, none⟩) (Kd.R_types n0_.out BW.out (by decide)) (fun _ hk => hk.2) (.int .i64 x.f0)) (fun _ hk => hk.2) (.string x.f1)) (fun _ hk => hk.2) (.int .i64 0)) (fun _ hk => hk.2) (.int .i64 0)) (fun _ hk => hk.1)⟩
              have m4_ : Aside0 (Kd.R (Kd.int .i64) 3 ((((w9.setCell ⟨gw, 0, none⟩ (.int .i64 x.f0)).setCell ⟨gw, 1, none⟩ (.string x.f1)).setCell ⟨gw, 2, none⟩ (.int .i64 0)).setCell ⟨gw, 3, none⟩ (.int .i64 0)) w.heap.size (fun k_ => some k_ ≠ (.slice Ao11 (ops st).length co11 : Value).ownBlock) u4 (dps st)) := ⟨Kd.R_mono (Kd.R_far (p := ⟨gw, 3, none⟩) (Kd.R_far (p := ⟨gw, 2, none⟩) (Kd.R_far (p := ⟨gw, 1, none⟩) (Kd.R_far (p := ⟨gw, 0, none⟩) (Kd.R_types n1_.out BW.out (by decide)) (fun _ hk => hk.2) (.int .i64 x.f0)) (fun _ hk => hk.2) (.string x.f1)) (fun _ hk => hk.2) (.int .i64 0)) (fun _ hk => hk.2) (.int .i64 0)) (fun _ hk => hk.1)⟩
              have m5_ := Aside0.mk (blk_far (blk_far (blk_far (blk_far n3_.out (p := ⟨gw, 0, none⟩) NB.out (.int .i64 x.f0)) (p := ⟨gw, 1, none⟩) NB.out (.string x.f1)) (p := ⟨gw, 2, none⟩) NB.out (.int .i64 0)) (p := ⟨gw, 3, none⟩) NB.out (.int .i64 0))
              have m6_ := Aside0.mk (node_copied BW.out ⟨x.f0, x.f1, 0, 0⟩)
              have m7_ := Aside0.mk (below_set (j := 3) (v := .int .i64 0) (below_set (j := 2) (v := .int .i64 0) (below_set (j := 1) (v := .string x.f1) (below_set (j := 0) (v := .int .i64 x.f0) n2_.out HGW.out) HGW.out) HGW.out) HGW.out)
              clear n0_ n1_ n2_ n3_ BW hcz10_0 hcz10_1 hcz10_2 hcz10_3 hfz10_0 hfz10_1 hfz10_2 hfz10_3 hy y
              generalize ((((w9.setCell ⟨gw, 0, none⟩ (.int .i64 x.f0)).setCell ⟨gw, 1, none⟩ (.string x.f1)).setCell ⟨gw, 2, none⟩ (.int .i64 0)).setCell ⟨gw, 3, none⟩ (.int .i64 0)) = w15 at m3_ m4_ m5_ m6_ m7_ ⊢
              clear w9 wc
              go_cut [65] from 17 to 102 (fun v65 wd => v65 = .int .i64 nz ∧ w15 = wd)
              case first =>
                go_wp2
                go_meet
                case rel => exact ⟨rfl, rfl⟩
              case rest =>
              obtain ⟨rfl, rfl⟩ := hcut
              apply_assumption
              go_cut [9] from 17 to 102 (fun v9 wd => ∃ (A B d : Int), v9 = .int .i64 d ∧ Aside0 (wantOk x st A B d) ∧ Aside0 (Kd.R (Kd.int .i64) 3 wd w.heap.size (fun k_ => some k_ ≠ (u4 : Value).ownBlock) (.slice Ao11 (ops st).length co11) (ops st)) ∧ Aside0 (Kd.R (Kd.int .i64) 3 wd w.heap.size (fun k_ => some k_ ≠ ((.slice Ao11 (ops st).length co11) : Value).ownBlock) u4 (dps st)) ∧ Aside0 (wd.heap[gb]? = some (.cells #[.int .i64 x.f0, .string x.f1, .int .i64 x.f2, .int .i64 x.f3] 51 (0, 0))) ∧ Aside0 (wd.heap[gw]? = some (.cells #[.int .i64 x.f0, .string x.f1, .int .i64 A, .int .i64 B] 51 (0, 0))) ∧ Aside0 (Below w.heap.size w wd))
              case first =>
                have hn2 := nms_le x.f0
                have hnl : nms x.f0 ≤ st.length := by have := (bad_not Hbf.out).2.2.1; rw [ops_len] at this; exact this
                rcases Nat.lt_or_ge (nms x.f0) 1 with hn | hn
                · obtain rfl : nz = 0 := by have := Hnz.out; omega
                  go_wp2
                  go_meet
                  case rel => exact ⟨0, 0, 1, rfl, ⟨.inl ⟨by omega, rfl, rfl, rfl⟩⟩, m3_, m4_, m5_, m6_, m7_⟩
                · rcases Nat.lt_or_ge (nms x.f0) 2 with hn' | hn'
                  · have hn1 : nms x.f0 = 1 := by omega
                    obtain rfl : nz = 1 := by have := Hnz.out; omega
                    obtain ⟨a, da, rest, hst⟩ := st_one (by omega : 1 ≤ st.length)
                    have hD := HI.out.2.2 (a, da) (by rw [hst]; exact List.mem_cons_self)
                    have hkr : kz = (rest.length : Int) := by have := Hkz.out; rw [ops_len, hst, hn1] at this; simp at this; omega
                    have q0 : (0 : Int) ≤ kz := by omega
                    have q1 : kz < ((ops st).length : Int) := by rw [ops_len, hst]; simp; omega
                    have q3 : kz ≤ ((dps st).length : Int) := by rw [dps_len, hst]; simp; omega
                    have Q0 := Aside0.mk q0
                    have Q3 := Aside0.mk q3
                    have Hdr := Aside0.mk (show (dps st).drop kz.toNat = [da] by rw [hkr, hst]; simp [dps])
                    have HMx := Aside0.mk (max_f1 da)
                    have hwd : IntKind.i64.wrap (1 + da) = 1 + da := by rw [i64_w]; exact w64 _ (by have := HI.out; omega) (by have := HI.out; omega)
                    have hat := Kd.at_int (Kd.R_reads' m3_.out).2.2 kz q0 q1
                    obtain ⟨ad, e114, hclr⟩ := hat
                    cases e114
                    clear hclr
                    have hrdkz : ∀ W : World, Kd.R (Kd.int .i64) 3 W w.heap.size (fun k_ => some k_ ≠ (u4 : Value).ownBlock) (.slice (some ad) (ops st).length co11) (ops st) → W.cell? (ad.add (kz : Int).toNat) = some (.int .i64 a) := by
                      intro W hR
                      obtain ⟨ad', e, h⟩ := Kd.at_int (Kd.R_reads' hR).2.2 kz q0 q1
                      cases e
                      rw [h, hkr, hst]; simp [ops, rd]
                    have hixw15_kz := hrdkz w15 m3_.out
                    clear hrdkz
                    have HST := Aside0.mk hst
                    have HN1 := Aside0.mk hn1
                    replace q0 := eq_true q0
                    replace q1 := eq_true q1
                    clear hst hkr hn1 hn hn' hn2 hnl q3
                    have hnop : True := trivial; have hczw15_0 : w15.cell? ⟨gw, 0, none⟩ = some (.int .i64 x.f0) := (blk_cell m6_.out 0).trans rfl; have hczw15_1 : w15.cell? ⟨gw, 1, none⟩ = some (.string x.f1) := (blk_cell m6_.out 1).trans rfl; have hczw15_2 : w15.cell? ⟨gw, 2, none⟩ = some (.int .i64 0) := (blk_cell m6_.out 2).trans rfl; have hczw15_3 : w15.cell? ⟨gw, 3, none⟩ = some (.int .i64 0) := (blk_cell m6_.out 3).trans rfl; have hfzw15_0 := blk_frozen m6_.out 0; have hfzw15_1 := blk_frozen m6_.out 1; have hfzw15_2 := blk_frozen m6_.out 2; have hfzw15_3 := blk_frozen m6_.out 3
                    go_wp2_with (first | ((with_reducible refine gate_store (t := 3) (p := 80) rfl ?_); refine store_event (t := 3) (p := 80) (v := ?vo_w18) (w1 := (w15.setCell ⟨gw, 2, none⟩ (.int .i64 a))) ?hg ?ho ?hn ?hr ?_; (case ho => rfl); (case hg => rfl); (case hn => rfl); (case hr => first | (go_simp; done) | (go_simp; rfl)); intro w18 hw; have n3_ : Aside0 (Kd.R (Kd.int .i64) 3 w18 w.heap.size (fun k_ => some k_ ≠ (u4 : Value).ownBlock) (.slice (some ad) (ops st).length co11) (ops st)) := ⟨(by rw [hw]; exact Kd.R_mono (Kd.R_far (p := ⟨gw, 2, none⟩) (Kd.R_types m3_.out m6_.out (by decide)) (fun _ hk => hk.2) (.int .i64 a)) (fun _ hk => hk.1))⟩; have n4_ : Aside0 (Kd.R (Kd.int .i64) 3 w18 w.heap.size (fun k_ => some k_ ≠ (.slice (some ad) (ops st).length co11 : Value).ownBlock) u4 (dps st)) := ⟨(by rw [hw]; exact Kd.R_mono (Kd.R_far (p := ⟨gw, 2, none⟩) (Kd.R_types m4_.out m6_.out (by decide)) (fun _ hk => hk.2) (.int .i64 a)) (fun _ hk => hk.1))⟩; have n5_ : Aside0 (w18.heap[gb]? = some (.cells #[.int .i64 x.f0, .string x.f1, .int .i64 x.f2, .int .i64 x.f3] 51 (0, 0))) := ⟨(by rw [hw]; exact blk_far m5_.out NB.out _)⟩; have n6_ : Aside0 (w18.heap[gw]? = some (.cells #[.int .i64 x.f0, .string x.f1, .int .i64 a, .int .i64 0] 51 (0, 0))) := ⟨(by rw [hw]; exact blk_put (cs := #[.int .i64 x.f0, .string x.f1, .int .i64 0, .int .i64 0]) m6_.out 2 _ rfl)⟩; have n7_ : Aside0 (Below w.heap.size w w18) := ⟨(by rw [hw]; exact below_set m7_.out HGW.out)⟩; clear hw m3_ m4_ m5_ m6_ m7_; have m3_ := n3_; have m4_ := n4_; have m5_ := n5_; have m6_ := n6_; have m7_ := n7_; clear n3_ n4_ n5_ n6_ n7_; obtain ⟨Ao52, co52, eo52⟩ := Kd.R_slice m4_.out; subst eo52; obtain ⟨i051, hi051, _, hsz51, _⟩ := info_parts info3; have hroom51 : (dps st).length ≤ co52 := (Kd.R_reads' m4_.out).2.1; have hC51 : Kd.C (Kd.int .i64) _ Ao52 (dps st).length (dps st) := (Kd.R_reads' m4_.out).2.2; have hcut51 := cut_from (P := Tryd.prog) 52 3 .i64 Tryd.underlying52 hi051 1 hsz51 Ao52 (dps st).length co52 kz Q0.out Q3.out; have hr51 := Kd.C_drop (m := (kz : Int).toNat) (c := co52) hC51 (by have := Q3.out; omega) hroom51; obtain ⟨A51, hA51⟩ : ∃ A1, A1 = (if co52 = (kz : Int).toNat then Ao52 else (Ao52 : Option Addr).map (·.add ((kz : Int).toNat * 1))) := ⟨_, rfl⟩; obtain ⟨c51, hc51⟩ : ∃ c1, c1 = co52 - (kz : Int).toNat := ⟨_, rfl⟩; have hy51 : ((dps st).drop (kz : Int).toNat).length = (dps st).length - (kz : Int).toNat := (by rw [List.length_drop]); replace hr51 : Kd.C (Kd.int .i64) _ A51 ((dps st).drop (kz : Int).toNat).length ((dps st).drop (kz : Int).toNat) := (by rw [hA51]; exact hr51); rw [← hy51, ← hA51, ← hc51] at hcut51; have HR119 := Aside0.mk hr51; have HC119 := Aside0.mk (show ((dps st).drop (kz : Int).toNat).length ≤ c51 from by rw [hy51, hc51]; exact Nat.sub_le_sub_right hroom51 _); rw [Hdr.out] at hcut51 HR119 HC119; clear hr51 hC51 hroom51 hi051 hsz51 hc51 hA51 hy51; have KQ3 := eq_true Q3.out) | ((with_reducible refine gate_callee (f := 32) rfl ?_); refine goesL_ (some 85) rfl rfl Tryd.func32 (by kernel_rfl) rfl #[.slice A51 ([da] : List Int).length c51] rfl (by (try simp only [List.map_toArray, List.map_cons, List.map_nil]); first | done | rfl | (simp only [List.length_drop, List.length_take]; rfl)) ?_; (with_reducible refine (slices_Max_int_int.calls _ _ [da] da _ ?side1 ?side2 HMx.out).mono ?_); (case side1 => exact HR119.out); (case side2 => exact HC119.out); rintro e w' ⟨rfl, ⟨nd, rfl⟩⟩; refine ⟨_, rfl, ?_⟩))
                    go_meet
                    case rel => exact ⟨a, 0, 1 + da, rfl, ⟨.inr (.inl ⟨a, da, rest, HN1.out, HST.out, rfl, rfl, rfl⟩)⟩, ⟨Kd.R_drewN m3_.out _⟩, ⟨Kd.R_drewN m4_.out _⟩, ⟨blk_drewN m5_.out _⟩, ⟨blk_drewN m6_.out _⟩, ⟨pw_below_drewN m7_.out _⟩⟩
                  · have hn1 : nms x.f0 = 2 := by omega
                    obtain rfl : nz = 2 := by have := Hnz.out; omega
                    obtain ⟨b, db, a, da, rest, hst⟩ := st_two (by omega : 2 ≤ st.length)
                    have hD := HI.out.2.2 (a, da) (by rw [hst]; exact List.mem_cons_of_mem _ List.mem_cons_self)
                    have hD2 := HI.out.2.2 (b, db) (by rw [hst]; exact List.mem_cons_self)
                    have hkr : kz = (rest.length : Int) := by have := Hkz.out; rw [ops_len, hst, hn1] at this; simp at this; omega
                    have q0 : (0 : Int) ≤ kz := by omega
                    have q1 : kz < ((ops st).length : Int) := by rw [ops_len, hst]; simp; omega
                    have q3 : kz ≤ ((dps st).length : Int) := by rw [dps_len, hst]; simp; omega
                    obtain ⟨k1, hk1⟩ : ∃ k1 : Int, kz + 1 = k1 := ⟨_, rfl⟩
                    have qa0 : (0 : Int) ≤ k1 := by omega
                    have qa1 : k1 < ((ops st).length : Int) := by rw [ops_len, hst]; simp; omega
                    have hwk : IntKind.i64.wrap (kz + 1) = k1 := by rw [i64_w, w64 _ (by omega) (by have := HI.out.2.1; rw [ops_len] at q1; omega)]; exact hk1
                    have Q0 := Aside0.mk q0
                    have Q3 := Aside0.mk q3
                    have Hdr := Aside0.mk (show (dps st).drop kz.toNat = [da, db] by rw [hkr, hst]; simp [dps])
                    have HMx := Aside0.mk (max_f2 da db)
                    obtain ⟨mx2, hmx⟩ : ∃ mx2 : Int, max da db = mx2 := ⟨_, rfl⟩
                    have hwd : IntKind.i64.wrap (1 + mx2) = 1 + mx2 := by rw [i64_w]; exact w64 _ (by have := HI.out; omega) (by have := HI.out; omega)
                    rw [hmx] at HMx
                    have HMX := Aside0.mk hmx
                    have hat := Kd.at_int (Kd.R_reads' m3_.out).2.2 kz q0 q1
                    obtain ⟨ad, e114, hclr⟩ := hat
                    cases e114
                    clear hclr
                    have hrdkz : ∀ W : World, Kd.R (Kd.int .i64) 3 W w.heap.size (fun k_ => some k_ ≠ (u4 : Value).ownBlock) (.slice (some ad) (ops st).length co11) (ops st) → W.cell? (ad.add (kz : Int).toNat) = some (.int .i64 a) := by
                      intro W hR
                      obtain ⟨ad', e, h⟩ := Kd.at_int (Kd.R_reads' hR).2.2 kz q0 q1
                      cases e
                      rw [h, hkr, hst]; simp [ops, rd]
                    have hrdk1 : ∀ W : World, Kd.R (Kd.int .i64) 3 W w.heap.size (fun k_ => some k_ ≠ (u4 : Value).ownBlock) (.slice (some ad) (ops st).length co11) (ops st) → W.cell? (ad.add (k1 : Int).toNat) = some (.int .i64 b) := by
                      intro W hR
                      obtain ⟨ad', e, h⟩ := Kd.at_int (Kd.R_reads' hR).2.2 k1 qa0 qa1
                      cases e
                      have e2 : k1.toNat = rest.length + 1 := by omega
                      rw [h, hst]; simp [ops, rd, e2]
                    have hixw15_k1 := hrdk1 w15 m3_.out
                    have Hrdkz := Aside0.mk hrdkz
                    clear hrdkz hrdk1
                    have HST := Aside0.mk hst
                    have HN1 := Aside0.mk hn1
                    replace q0 := eq_true q0
                    replace q1 := eq_true q1
                    replace qa0 := eq_true qa0
                    replace qa1 := eq_true qa1
                    clear hst hkr hn1 hn hn' hn2 hnl q3 hk1 hmx hD hD2
                    have hnop : True := trivial; have hczw15_0 : w15.cell? ⟨gw, 0, none⟩ = some (.int .i64 x.f0) := (blk_cell m6_.out 0).trans rfl; have hczw15_1 : w15.cell? ⟨gw, 1, none⟩ = some (.string x.f1) := (blk_cell m6_.out 1).trans rfl; have hczw15_2 : w15.cell? ⟨gw, 2, none⟩ = some (.int .i64 0) := (blk_cell m6_.out 2).trans rfl; have hczw15_3 : w15.cell? ⟨gw, 3, none⟩ = some (.int .i64 0) := (blk_cell m6_.out 3).trans rfl; have hfzw15_0 := blk_frozen m6_.out 0; have hfzw15_1 := blk_frozen m6_.out 1; have hfzw15_2 := blk_frozen m6_.out 2; have hfzw15_3 := blk_frozen m6_.out 3
                    go_wp2_with (first | ((with_reducible refine gate_store (t := 3) (p := 75) rfl ?_); refine store_event (t := 3) (p := 75) (v := ?vo_w28) (w1 := (w15.setCell ⟨gw, 3, none⟩ (.int .i64 b))) ?hg ?ho ?hn ?hr ?_; (case ho => rfl); (case hg => rfl); (case hn => rfl); (case hr => first | (go_simp; done) | (go_simp; rfl)); intro w28 hw; have n3_ : Aside0 (Kd.R (Kd.int .i64) 3 w28 w.heap.size (fun k_ => some k_ ≠ (u4 : Value).ownBlock) (.slice (some ad) (ops st).length co11) (ops st)) := ⟨(by rw [hw]; exact Kd.R_mono (Kd.R_far (p := ⟨gw, 3, none⟩) (Kd.R_types m3_.out m6_.out (by decide)) (fun _ hk => hk.2) (.int .i64 b)) (fun _ hk => hk.1))⟩; have n4_ : Aside0 (Kd.R (Kd.int .i64) 3 w28 w.heap.size (fun k_ => some k_ ≠ (.slice (some ad) (ops st).length co11 : Value).ownBlock) u4 (dps st)) := ⟨(by rw [hw]; exact Kd.R_mono (Kd.R_far (p := ⟨gw, 3, none⟩) (Kd.R_types m4_.out m6_.out (by decide)) (fun _ hk => hk.2) (.int .i64 b)) (fun _ hk => hk.1))⟩; have n5_ : Aside0 (w28.heap[gb]? = some (.cells #[.int .i64 x.f0, .string x.f1, .int .i64 x.f2, .int .i64 x.f3] 51 (0, 0))) := ⟨(by rw [hw]; exact blk_far m5_.out NB.out _)⟩; have n6_ : Aside0 (w28.heap[gw]? = some (.cells #[.int .i64 x.f0, .string x.f1, .int .i64 0, .int .i64 b] 51 (0, 0))) := ⟨(by rw [hw]; exact blk_put (cs := #[.int .i64 x.f0, .string x.f1, .int .i64 0, .int .i64 0]) m6_.out 3 _ rfl)⟩; have n7_ : Aside0 (Below w.heap.size w w28) := ⟨(by rw [hw]; exact below_set m7_.out HGW.out)⟩; clear hw m3_ m4_ m5_ m6_ m7_; have m3_ := n3_; have m4_ := n4_; have m5_ := n5_; have m6_ := n6_; have m7_ := n7_; clear n3_ n4_ n5_ n6_ n7_; have hczw28_0 : w28.cell? ⟨gw, 0, none⟩ = some (.int .i64 x.f0) := (blk_cell m6_.out 0).trans rfl; have hczw28_1 : w28.cell? ⟨gw, 1, none⟩ = some (.string x.f1) := (blk_cell m6_.out 1).trans rfl; have hczw28_2 : w28.cell? ⟨gw, 2, none⟩ = some (.int .i64 0) := (blk_cell m6_.out 2).trans rfl; have hczw28_3 : w28.cell? ⟨gw, 3, none⟩ = some (.int .i64 b) := (blk_cell m6_.out 3).trans rfl; have hfzw28_0 := blk_frozen m6_.out 0; have hfzw28_1 := blk_frozen m6_.out 1; have hfzw28_2 := blk_frozen m6_.out 2; have hfzw28_3 := blk_frozen m6_.out 3; have hixw28_kz := Hrdkz.out w28 m3_.out) | ((with_reducible refine gate_store (t := 3) (p := 80) rfl ?_); refine store_event (t := 3) (p := 80) (v := ?vo_w29) (w1 := (w28.setCell ⟨gw, 2, none⟩ (.int .i64 a))) ?hg ?ho ?hn ?hr ?_; (case ho => rfl); (case hg => rfl); (case hn => rfl); (case hr => first | (go_simp; done) | (go_simp; rfl)); intro w29 hw; have n3_ : Aside0 (Kd.R (Kd.int .i64) 3 w29 w.heap.size (fun k_ => some k_ ≠ (u4 : Value).ownBlock) (.slice (some ad) (ops st).length co11) (ops st)) := ⟨(by rw [hw]; exact Kd.R_mono (Kd.R_far (p := ⟨gw, 2, none⟩) (Kd.R_types m3_.out m6_.out (by decide)) (fun _ hk => hk.2) (.int .i64 a)) (fun _ hk => hk.1))⟩; have n4_ : Aside0 (Kd.R (Kd.int .i64) 3 w29 w.heap.size (fun k_ => some k_ ≠ (.slice (some ad) (ops st).length co11 : Value).ownBlock) u4 (dps st)) := ⟨(by rw [hw]; exact Kd.R_mono (Kd.R_far (p := ⟨gw, 2, none⟩) (Kd.R_types m4_.out m6_.out (by decide)) (fun _ hk => hk.2) (.int .i64 a)) (fun _ hk => hk.1))⟩; have n5_ : Aside0 (w29.heap[gb]? = some (.cells #[.int .i64 x.f0, .string x.f1, .int .i64 x.f2, .int .i64 x.f3] 51 (0, 0))) := ⟨(by rw [hw]; exact blk_far m5_.out NB.out _)⟩; have n6_ : Aside0 (w29.heap[gw]? = some (.cells #[.int .i64 x.f0, .string x.f1, .int .i64 a, .int .i64 b] 51 (0, 0))) := ⟨(by rw [hw]; exact blk_put (cs := #[.int .i64 x.f0, .string x.f1, .int .i64 0, .int .i64 b]) m6_.out 2 _ rfl)⟩; have n7_ : Aside0 (Below w.heap.size w w29) := ⟨(by rw [hw]; exact below_set m7_.out HGW.out)⟩; clear hw m3_ m4_ m5_ m6_ m7_; have m3_ := n3_; have m4_ := n4_; have m5_ := n5_; have m6_ := n6_; have m7_ := n7_; clear n3_ n4_ n5_ n6_ n7_; obtain ⟨Ao52, co52, eo52⟩ := Kd.R_slice m4_.out; subst eo52; obtain ⟨i051, hi051, _, hsz51, _⟩ := info_parts info3; have hroom51 : (dps st).length ≤ co52 := (Kd.R_reads' m4_.out).2.1; have hC51 : Kd.C (Kd.int .i64) _ Ao52 (dps st).length (dps st) := (Kd.R_reads' m4_.out).2.2; have hcut51 := cut_from (P := Tryd.prog) 52 3 .i64 Tryd.underlying52 hi051 1 hsz51 Ao52 (dps st).length co52 kz Q0.out Q3.out; have hr51 := Kd.C_drop (m := (kz : Int).toNat) (c := co52) hC51 (by have := Q3.out; omega) hroom51; obtain ⟨A51, hA51⟩ : ∃ A1, A1 = (if co52 = (kz : Int).toNat then Ao52 else (Ao52 : Option Addr).map (·.add ((kz : Int).toNat * 1))) := ⟨_, rfl⟩; obtain ⟨c51, hc51⟩ : ∃ c1, c1 = co52 - (kz : Int).toNat := ⟨_, rfl⟩; have hy51 : ((dps st).drop (kz : Int).toNat).length = (dps st).length - (kz : Int).toNat := (by rw [List.length_drop]); replace hr51 : Kd.C (Kd.int .i64) _ A51 ((dps st).drop (kz : Int).toNat).length ((dps st).drop (kz : Int).toNat) := (by rw [hA51]; exact hr51); rw [← hy51, ← hA51, ← hc51] at hcut51; have HR119 := Aside0.mk hr51; have HC119 := Aside0.mk (show ((dps st).drop (kz : Int).toNat).length ≤ c51 from by rw [hy51, hc51]; exact Nat.sub_le_sub_right hroom51 _); rw [Hdr.out] at hcut51 HR119 HC119; clear hr51 hC51 hroom51 hi051 hsz51 hc51 hA51 hy51; have KQ3 := eq_true Q3.out) | ((with_reducible refine gate_callee (f := 32) rfl ?_); refine goesL_ (some 85) rfl rfl Tryd.func32 (by kernel_rfl) rfl #[.slice A51 ([da, db] : List Int).length c51] rfl (by (try simp only [List.map_toArray, List.map_cons, List.map_nil]); first | done | rfl | (simp only [List.length_drop, List.length_take]; rfl)) ?_; (with_reducible refine (slices_Max_int_int.calls _ _ [da, db] mx2 _ ?side1 ?side2 HMx.out).mono ?_); (case side1 => exact HR119.out); (case side2 => exact HC119.out); rintro e w' ⟨rfl, ⟨nd, rfl⟩⟩; refine ⟨_, rfl, ?_⟩))
                    go_meet
                    case rel => exact ⟨a, b, 1 + mx2, rfl, ⟨.inr (.inr ⟨b, db, a, da, rest, HN1.out, HST.out, rfl, rfl, by rw [HMX.out]⟩)⟩, ⟨Kd.R_drewN m3_.out _⟩, ⟨Kd.R_drewN m4_.out _⟩, ⟨blk_drewN m5_.out _⟩, ⟨blk_drewN m6_.out _⟩, ⟨pw_below_drewN m7_.out _⟩⟩
              case rest =>
                obtain ⟨A, B, d, rfl, HW, HO_3, HO_4, BK, BW, HB⟩ := hcut
                clear m3_ m4_ m5_ m6_ m7_
                apply_assumption
                have hstl : nms x.f0 ≤ st.length := by have := (bad_not Hbf.out).2.2.1; rw [ops_len] at this; exact this
                have hc1 := chk1_want (i := (i : Int)) (by rw [← ops_len]; exact Hbf.out) HW.out
                have hcz0 : wc.cell? ⟨gb, 0, none⟩ = some (.int .i64 x.f0) := (blk_cell BK.out 0).trans rfl
                have hcz1 : wc.cell? ⟨gb, 1, none⟩ = some (.string x.f1) := (blk_cell BK.out 1).trans rfl
                have hcz2 : wc.cell? ⟨gb, 2, none⟩ = some (.int .i64 x.f2) := (blk_cell BK.out 2).trans rfl
                have hcz3 : wc.cell? ⟨gb, 3, none⟩ = some (.int .i64 x.f3) := (blk_cell BK.out 3).trans rfl
                have hcy0 : wc.cell? ⟨gw, 0, none⟩ = some (.int .i64 x.f0) := (blk_cell BW.out 0).trans rfl
                have hcy1 : wc.cell? ⟨gw, 1, none⟩ = some (.string x.f1) := (blk_cell BW.out 1).trans rfl
                have hcy2 : wc.cell? ⟨gw, 2, none⟩ = some (.int .i64 A) := (blk_cell BW.out 2).trans rfl
                have hcy3 : wc.cell? ⟨gw, 3, none⟩ = some (.int .i64 B) := (blk_cell BW.out 3).trans rfl
                by_cases heq : x.f2 = A ∧ x.f3 = B
                · have e2 : (x.f2 == A) = true := by simp [heq.1]
                  have e3 : (x.f3 == B) = true := by simp [heq.2]
                  rw [if_pos heq] at hc1
                  have HN := Aside0.mk (show chkE (chkN (l0.drop (i + 1)) ((i + 1 : Nat) : Int) (((i : Int), d) :: st.drop (nms x.f0))) = r by have h1 := HA1.out; rw [hc1] at h1; exact h1)
                  have hkn : kz = ((st.length - nms x.f0 : Nat) : Int) := by have := Hkz.out; rw [ops_len] at this; omega
                  have Hdp := Aside0.mk (want_deep HW.out HI.out.2.2)
                  have hkl : kz ≤ (st.length : Int) := by omega
                  have hk0 : 0 ≤ kz := by omega
                  have c137b0 : decide (0 ≤ kz) = true := decide_eq_true hk0
                  have c138b1 : decide (kz ≤ ((ops st).length : Int)) = true := decide_eq_true (by rw [ops_len]; exact hkl)
                  have c140b1 : decide (kz ≤ ((dps st).length : Int)) = true := decide_eq_true (by rw [dps_len]; exact hkl)
                  obtain ⟨y163, hy163⟩ : ∃ y_ : List Int, y_ = (ops st).take (kz : Int).toNat := ⟨_, rfl⟩
                  obtain ⟨y166, hy166⟩ : ∃ y_ : List Int, y_ = ([(i : Int)] : List Int) := ⟨_, rfl⟩
                  obtain ⟨y169, hy169⟩ : ∃ y_ : List Int, y_ = y163 ++ y166 := ⟨_, rfl⟩
                  obtain ⟨y172, hy172⟩ : ∃ y_ : List Int, y_ = (dps st).take (kz : Int).toNat := ⟨_, rfl⟩
                  obtain ⟨y175, hy175⟩ : ∃ y_ : List Int, y_ = ([d] : List Int) := ⟨_, rfl⟩
                  obtain ⟨y178, hy178⟩ : ∃ y_ : List Int, y_ = y172 ++ y175 := ⟨_, rfl⟩
                  have hsl : st.length ≤ 60 := by have := HI.out; omega
                  have LMc139 := Aside0.mk (show y163.length + y166.length < 17592186044416 by rw [hy163, hy166, List.length_take, ops_len]; simp; omega)
                  have LMc141 := Aside0.mk (show y172.length + y175.length < 17592186044416 by rw [hy172, hy175, List.length_take, dps_len]; simp; omega)
                  have HOP := Aside0.mk (show y169 = ops (((i : Int), d) :: st.drop (nms x.f0)) by rw [hy169, hy163, hy166]; simp only [ops, List.map_cons, List.reverse_cons, List.map_drop]; rw [rev_drop _ _ (by simpa using hstl), List.length_map, hkn]; rfl)
                  have HDP := Aside0.mk (show y178 = dps (((i : Int), d) :: st.drop (nms x.f0)) by rw [hy178, hy172, hy175]; simp only [dps, List.map_cons, List.reverse_cons, List.map_drop]; rw [rev_drop _ _ (by simpa using hstl), List.length_map, hkn]; rfl)
                  have Ny163 := Aside0.mk hy163
                  have Ny166 := Aside0.mk hy166
                  have Ny169 := Aside0.mk hy169
                  have Ny172 := Aside0.mk hy172
                  have Ny175 := Aside0.mk hy175
                  have Ny178 := Aside0.mk hy178
                  have Hkn := Aside0.mk hkn
                  have Hstl := Aside0.mk hstl
                  clear hy163 hy166 hy169 hy172 hy175 hy178 heq hc1 hkn hstl hsl hkl hk0 HA1
                  go_upto_region 21 with fail
                  clear e2 e3 hcz0 hcz1 hcz2 hcz3 hcy0 hcy1 hcy2 hcy3
                  have n0_ := Aside0.mk (Kd.R_drew HO_3.out)
                  have n1_ := Aside0.mk (Kd.R_drew HO_4.out)
                  have n2_ := Aside0.mk (blk_drew BK.out)
                  have n3_ := Aside0.mk (blk_drew BW.out)
                  have n4_ := Aside0.mk (below_drew1 HB.out)
                  clear HO_3
                  clear HO_4
                  clear BK
                  clear BW
                  clear HB
                  have HO_3 := n0_
                  have HO_4 := n1_
                  have BK := n2_
                  have BW := n3_
                  have HB := n4_
                  clear n0_ n1_ n2_ n3_ n4_
                  have q149 : ((kz) : Int) ≤ (((ops st).length : Int) : Int) := of_decide_eq_true (by first | (with_reducible assumption) | assumption)
                  obtain ⟨i0149, hi0149, _, hsz149, _⟩ := info_parts info3
                  have hcut149 := cut_to (P := Tryd.prog) 52 3 .i64 Tryd.underlying52 hi0149 Ao11 (ops st).length co11 (kz) (of_decide_eq_true (by first | (with_reducible assumption) | assumption)) q149 (Kd.R_reads' HO_3.out).2.1
                  have hr149 := Kd.R_take (m := ((kz) : Int).toNat) HO_3.out (by omega)
                  have hy149 : y163.length = ((kz) : Int).toNat := (by rw [Ny163.out, List.length_take]; omega)
                  rw [← Ny163.out] at hr149
                  rw [← hy149] at hr149 hcut149
                  clear hy149 hi0149 hsz149 HO_3
                  have HO165 := Aside0.mk hr149
                  clear hr149
                  replace q149 := eq_true q149
                  obtain ⟨Ao150, co150, eo150⟩ := Kd.R_slice HO_4.out
                  (first | subst eo150 | (injection eo150 with f1_ f2_ f3_; have f4_ := f1_.symm; have f5_ := f3_.symm; clear f1_ f2_ f3_; subst f4_; subst f5_))
                  have q151 : ((kz) : Int) ≤ (((dps st).length : Int) : Int) := of_decide_eq_true (by first | (with_reducible assumption) | assumption)
                  obtain ⟨i0151, hi0151, _, hsz151, _⟩ := info_parts info3
                  have hcut151 := cut_to (P := Tryd.prog) 52 3 .i64 Tryd.underlying52 hi0151 Ao150 (dps st).length co150 (kz) (of_decide_eq_true (by first | (with_reducible assumption) | assumption)) q151 (Kd.R_reads' HO_4.out).2.1
                  have hr151 := Kd.R_take (m := ((kz) : Int).toNat) HO_4.out (by omega)
                  have hy151 : y172.length = ((kz) : Int).toNat := (by rw [Ny172.out, List.length_take]; omega)
                  rw [← Ny172.out] at hr151
                  rw [← hy151] at hr151 hcut151
                  clear hy151 hi0151 hsz151 HO_4
                  have HO174 := Aside0.mk hr151
                  clear hr151
                  replace q151 := eq_true q151
                  (have n0_ := Aside0.mk (Kd.R_mono (ok' := fun k_ => some k_ ≠ (.slice Ao150 y172.length co150 : Value).ownBlock) HO165.out (fun _ hk => by rw [own_len _ _ (dps st).length]; exact hk)); have n1_ := Aside0.mk (Kd.R_mono (ok' := fun k_ => some k_ ≠ (.slice Ao11 y163.length co11 : Value).ownBlock) HO174.out (fun _ hk => by rw [own_len _ _ (ops st).length]; exact hk)); clear HO165 HO174; have HO165 := n0_; have HO174 := n1_; clear n0_ n1_)
                  refine start_ (n := 14) (S := fun w' => True) (ds := []) #[false, false, false, false, false, false, false, false, false, false, false, false, false, false] (by kernel_rfl) rfl rfl trivial (fun hHeld => ?_); refine with_tabW expr_Check.tab21 expr_Check.bits21 (fun HT_ HW_ => ?_)
                  generalize wc.drew = w148 at BK BW HB HO165 HO174 hHeld ⊢
                  refine pure_ (i := 0) (N := some 90) (v := ?_) (a' := ?_) #[true, false, false, false, false, false, false, false, false, false, false, false, false, false] rfl rfl (any_of HT_.out (by kernel_rfl)) (fun _ _ _ h => h) (Or.inl ⟨by rfl, ?_⟩) ?_ ?_
                  rotate_left
                  · (intro w'; go_simp; with_reducible rfl)
                  rotate_left
                  · (simp only [Act.put, List.setIfInBounds_toArray, List.set_cons_zero, List.set_cons_succ, i64_w, i32_w]; rfl)
                  refine pure_ (i := 1) (N := some 91) (v := ?_) (a' := ?_) #[true, true, false, false, false, false, false, false, false, false, false, false, false, false] rfl rfl (any_of HT_.out (by kernel_rfl)) (fun _ _ _ h => h) (Or.inl ⟨by rfl, ?_⟩) ?_ ?_
                  rotate_left
                  · (intro w'; go_simp; with_reducible rfl)
                  rotate_left
                  · (simp only [Act.put, List.setIfInBounds_toArray, List.set_cons_zero, List.set_cons_succ, i64_w, i32_w]; rfl)
                  refine pure_ (i := 2) (N := some 92) (v := ?_) (a' := ?_) #[true, true, true, false, false, false, false, false, false, false, false, false, false, false] rfl rfl (any_of HT_.out (by kernel_rfl)) (fun _ _ _ h => h) (Or.inl ⟨by rfl, ?_⟩) ?_ ?_
                  rotate_left
                  · (intro w'; go_simp; with_reducible rfl)
                  rotate_left
                  · (simp only [Act.put, List.setIfInBounds_toArray, List.set_cons_zero, List.set_cons_succ, i64_w, i32_w]; rfl)
                  refine pure_ (i := 3) (N := some 93) (v := ?_) (a' := ?_) #[true, true, true, true, false, false, false, false, false, false, false, false, false, false] rfl rfl (any_of HT_.out (by kernel_rfl)) (fun _ _ _ h => h) (Or.inl ⟨by rfl, ?_⟩) ?_ ?_
                  rotate_left
                  · (intro w'; go_simp; with_reducible rfl)
                  rotate_left
                  · (simp only [Act.put, List.setIfInBounds_toArray, List.set_cons_zero, List.set_cons_succ, i64_w, i32_w]; rfl)
                  refine pure_ (i := 6) (N := some 96) (v := ?_) (a' := ?_) #[true, true, true, true, false, false, true, false, false, false, false, false, false, false] rfl rfl (any_of HT_.out (by kernel_rfl)) (fun _ _ _ h => h) (Or.inl ⟨by rfl, ?_⟩) ?_ ?_
                  rotate_left
                  · (intro w'; go_simp; with_reducible rfl)
                  rotate_left
                  · (simp only [Act.put, List.setIfInBounds_toArray, List.set_cons_zero, List.set_cons_succ, i64_w, i32_w]; rfl)
                  refine pure_ (i := 7) (N := some 97) (v := ?_) (a' := ?_) #[true, true, true, true, false, false, true, true, false, false, false, false, false, false] rfl rfl (any_of HT_.out (by kernel_rfl)) (fun _ _ _ h => h) (Or.inl ⟨by rfl, ?_⟩) ?_ ?_
                  rotate_left
                  · (intro w'; go_simp; with_reducible rfl)
                  rotate_left
                  · (simp only [Act.put, List.setIfInBounds_toArray, List.set_cons_zero, List.set_cons_succ, i64_w, i32_w]; rfl)
                  refine pure_ (i := 8) (N := some 98) (v := ?_) (a' := ?_) #[true, true, true, true, false, false, true, true, true, false, false, false, false, false] rfl rfl (any_of HT_.out (by kernel_rfl)) (fun _ _ _ h => h) (Or.inl ⟨by rfl, ?_⟩) ?_ ?_
                  rotate_left
                  · (intro w'; go_simp; with_reducible rfl)
                  rotate_left
                  · (simp only [Act.put, List.setIfInBounds_toArray, List.set_cons_zero, List.set_cons_succ, i64_w, i32_w]; rfl)
                  refine pure_ (i := 9) (N := some 99) (v := ?_) (a' := ?_) #[true, true, true, true, false, false, true, true, true, true, false, false, false, false] rfl rfl (any_of HT_.out (by kernel_rfl)) (fun _ _ _ h => h) (Or.inl ⟨by rfl, ?_⟩) ?_ ?_
                  rotate_left
                  · (intro w'; go_simp; with_reducible rfl)
                  rotate_left
                  · (simp only [Act.put, List.setIfInBounds_toArray, List.set_cons_zero, List.set_cons_succ, i64_w, i32_w]; rfl)
                  refine join_ (σ := Value × Value × Value) 3 #[true, true, true, true, true, true, true, true, true, true, true, false, false, false] (fun s_ => [(94, s_.1), (95, s_.2.1), (100, s_.2.2)]) (fun s_ w' => (Kd.R (Kd.int .i64) 3 w' w.heap.size (fun k_ => some k_ ≠ (s_.2.1 : Value).ownBlock ∧ some k_ ≠ (.slice Ao150 y172.length co150 : Value).ownBlock ∧ some k_ ≠ (s_.2.2 : Value).ownBlock) s_.1 y166) ∧ (Kd.R (Kd.int .i64) 3 w' w.heap.size (fun k_ => some k_ ≠ (s_.1 : Value).ownBlock ∧ some k_ ≠ (.slice Ao150 y172.length co150 : Value).ownBlock ∧ some k_ ≠ (s_.2.2 : Value).ownBlock) s_.2.1 y169) ∧ (Kd.R (Kd.int .i64) 3 w' w.heap.size (fun k_ => some k_ ≠ (s_.1 : Value).ownBlock ∧ some k_ ≠ (s_.2.1 : Value).ownBlock ∧ some k_ ≠ (s_.2.2 : Value).ownBlock) (.slice Ao150 y172.length co150) y172) ∧ (Kd.R (Kd.int .i64) 3 w' w.heap.size (fun k_ => some k_ ≠ (s_.1 : Value).ownBlock ∧ some k_ ≠ (s_.2.1 : Value).ownBlock ∧ some k_ ≠ (.slice Ao150 y172.length co150 : Value).ownBlock) s_.2.2 y175) ∧ (w'.heap[gb]? = some (.cells #[.int .i64 x.f0, .string x.f1, .int .i64 x.f2, .int .i64 x.f3] 51 (0, 0))) ∧ (w'.heap[gw]? = some (.cells #[.int .i64 x.f0, .string x.f1, .int .i64 A, .int .i64 B] 51 (0, 0))) ∧ (Below w.heap.size w w')) ?_ ?_
                  rotate_left
                  · intro hCont
                    refine two_ (i := 4) (j := 10) (Ni := some 94) (Nj := some 100) #[true, true, true, true, true, false, true, true, true, true, false, false, false, false] #[true, true, true, true, false, false, true, true, true, true, true, false, false, false] rfl rfl rfl rfl (two_of HT_.out (by kernel_rfl)) (by decide) (by decide) (fun K hK => ?_) (fun K hK => ?_)
                    · skip
                      refine Kd.R_lit_step (Kd.int .i64) _ 3 ?hg (N := 94) ?hd (xs := ([(i : Int)] : List Int)) (inner := [.int .i64 (i : Int)]) (ok := fun _ => True) (okp := fun _ => True) ?hr ?hp (fun _ hk => hk) trivial (Below.refl _ _) (Nat.le_refl _) (by simp) ?_; (case hd => rfl); (case hg => rfl); (case hr => first | (go_simp; done) | (go_simp; rfl)); (case hp => exact (Reps.one (show Kd.M (Kd.int .i64) _ _ _ (i : Int) [.int .i64 (i : Int)] from rfl) (Reps.none _ _)))
                      intro v167 w152 ho153 hb hg_ hnew_
                      clear hg_ hnew_
                      (first | rw [← Ny166.out] at ho153 | (simp only [Int.reduceToNat] at ho153; rw [← Ny166.out] at ho153))
                      have n0_ := Aside0.mk (Kd.R_elder' (by (with_reducible repeat (first | apply Kd.R_alloc | apply Kd.R_drewN | apply Kd.R_drew)); exact HO165.out) (Kd.R_base ho153) hb)
                      have n1_ := Aside0.mk (Kd.R_elder' (by (with_reducible repeat (first | apply Kd.R_alloc | apply Kd.R_drewN | apply Kd.R_drew)); exact HO174.out) (Kd.R_base ho153) hb)
                      have n2_ := Aside0.mk (Kd.R_lower (Kd.R_new' (Kd.R_new' ho153 (Kd.R_lt (by (with_reducible repeat (first | apply Kd.R_alloc | apply Kd.R_drewN | apply Kd.R_drew)); exact HO165.out))) (Kd.R_lt (by (with_reducible repeat (first | apply Kd.R_alloc | apply Kd.R_drewN | apply Kd.R_drew)); exact HO174.out))) (below_size (by repeat (first | (with_reducible first | exact HB.out | apply below_alloc | apply pw_below_drewN | apply below_drew1 | refine below_set ?_ HG.out | refine below_set ?_ HGW.out) | exact HB.out))))
                      have n3_ := Aside0.mk (blk_below (g := gb) (o := .cells #[.int .i64 x.f0, .string x.f1, .int .i64 x.f2, .int .i64 x.f3] 51 (0, 0)) (by (with_reducible repeat (first | refine blk_drewN ?_ _ | refine blk_drew ?_ | refine blk_alloc ?_ _)); exact BK.out) hb)
                      have n4_ := Aside0.mk (blk_below (g := gw) (o := .cells #[.int .i64 x.f0, .string x.f1, .int .i64 A, .int .i64 B] 51 (0, 0)) (by (with_reducible repeat (first | refine blk_drewN ?_ _ | refine blk_drew ?_ | refine blk_alloc ?_ _)); exact BW.out) hb)
                      have n5_ := Aside0.mk (below_step (by repeat (first | (with_reducible first | exact HB.out | apply below_alloc | apply pw_below_drewN | apply below_drew1 | refine below_set ?_ HG.out | refine below_set ?_ HGW.out) | exact HB.out)) hb)
                      clear HO165
                      clear HO174
                      clear BK
                      clear BW
                      clear HB
                      have HO165 := n0_
                      have HO174 := n1_
                      have HO168 := n2_
                      have BK := n3_
                      have BW := n4_
                      have HB := n5_
                      clear n0_ n1_ n2_ n3_ n4_ n5_
                      clear hb ho153
                      obtain ⟨Ao155, co155, eo155⟩ := Kd.R_slice HO168.out
                      (first | subst eo155 | (injection eo155 with f1_ f2_ f3_; have f4_ := f1_.symm; have f5_ := f3_.symm; clear f1_ f2_ f3_; subst f4_; subst f5_))
                      refine hK.out _ _ trivial (fun hHeld => ?_)
                      clear hK K
                      refine norm_ (a' := ?_) ?_ ?_
                      rotate_left
                      · show Act.put _ (some 94) _ = _
                        simp only [Act.put, List.setIfInBounds_toArray, List.set_cons_zero, List.set_cons_succ, i64_w, i32_w]
                        rfl
                      refine two_ (i := 5) (j := 10) (Ni := some 95) (Nj := some 100) #[true, true, true, true, true, true, true, true, true, true, false, false, false, false] #[true, true, true, true, true, false, true, true, true, true, true, false, false, false] rfl rfl rfl rfl (two_of HT_.out (by kernel_rfl)) (by decide) (by decide) (fun K hK => ?_) (fun K hK => ?_)
                      · skip
                        refine Kd.R_append_rows_step (Kd.int .i64) (w0 := w) w.heap.size (by rfl) (.tmp 92) (.tmp 94) 52 3 (.int .i64 0) 8 rfl Tryd.underlying52 info3 rfl (by decide) (by omega) (.slice Ao11 y163.length co11) y163 y166 _ _ _ (fun k_ => some k_ ≠ (.slice Ao150 y172.length co150 : Value).ownBlock ∧ some k_ ≠ (.slice Ao155 y166.length co155 : Value).ownBlock) (fun _ => False) rfl rfl ?aO ?aR (fun _ _ h => h) (fun _ h => h.elim) ?aF ?aB ?aS ?aL ?_
                        (case aR => repeat (first | exact (Kd.R_reads' HO168.out).2.2 | (with_reducible refine Kd.C_alloc ?_ _) | (with_reducible refine Kd.C_drewN ?_ _) | (with_reducible refine Kd.C_drew ?_)))
                        (case aB => exact (by repeat (first | (with_reducible first | exact HB.out | apply below_alloc | apply pw_below_drewN | apply below_drew1 | refine below_set ?_ HG.out | refine below_set ?_ HGW.out) | exact HB.out)))
                        (case aF => exact (fun k_ hk => ⟨Kd.fresh' (Kd.R_lt (by (with_reducible repeat (first | apply Kd.R_alloc | apply Kd.R_drewN | apply Kd.R_drew)); exact HO174.out)) k_ hk, Kd.fresh' (Kd.R_lt (by (with_reducible repeat (first | apply Kd.R_alloc | apply Kd.R_drewN | apply Kd.R_drew)); exact HO168.out)) k_ hk⟩))
                        (case aO => exact (by (with_reducible repeat (first | apply Kd.R_alloc | apply Kd.R_drewN | apply Kd.R_drew)); exact HO165.out))
                        (case aS => exact (below_size (by repeat (first | (with_reducible first | exact HB.out | apply below_alloc | apply pw_below_drewN | apply below_drew1 | refine below_set ?_ HG.out | refine below_set ?_ HGW.out) | exact HB.out))))
                        (case aL => have := LMc139.out; omega)
                        intro v170 w154 ho hb hg hat
                        rw [← Ny169.out] at ho
                        have n0_ := Aside0.mk (Kd.R_after (ok := (fun k_ => some k_ ≠ (.slice Ao155 y166.length co155 : Value).ownBlock)) (by (with_reducible repeat (first | apply Kd.R_alloc | apply Kd.R_drewN | apply Kd.R_drew)); exact Kd.R_mono HO174.out (fun _ hk => ⟨hk.2, hk.1⟩)) hg hat)
                        have n1_ := Aside0.mk (blk_grown (g := gb) (o := .cells #[.int .i64 x.f0, .string x.f1, .int .i64 x.f2, .int .i64 x.f3] 51 (0, 0)) (by (with_reducible repeat (first | refine blk_drewN ?_ _ | refine blk_drew ?_ | refine blk_alloc ?_ _)); exact BK.out) hg (Kd.R_ne HO165.out BK.out (by decide)))
                        have n2_ := Aside0.mk (blk_grown (g := gw) (o := .cells #[.int .i64 x.f0, .string x.f1, .int .i64 A, .int .i64 B] 51 (0, 0)) (by (with_reducible repeat (first | refine blk_drewN ?_ _ | refine blk_drew ?_ | refine blk_alloc ?_ _)); exact BW.out) hg (Kd.R_ne HO165.out BW.out (by decide)))
                        have n3_ := Aside0.mk (Kd.R_after (ok := (fun k_ => some k_ ≠ (.slice Ao150 y172.length co150 : Value).ownBlock)) (by (with_reducible repeat (first | apply Kd.R_alloc | apply Kd.R_drewN | apply Kd.R_drew)); exact Kd.R_mono HO168.out (fun _ hk => ⟨hk.2, hk.1.2⟩)) hg hat)
                        have n4_ := Aside0.mk (hb)
                        have n5_ := Aside0.mk (ho)
                        clear HO174
                        clear BK
                        clear BW
                        clear HO168
                        clear HB
                        clear HO165
                        have HO174 := n0_
                        have BK := n1_
                        have BW := n2_
                        have HO168 := n3_
                        have HB := n4_
                        have HO171 := n5_
                        clear n0_ n1_ n2_ n3_ n4_ n5_
                        clear ho hb hg hat
                        refine hK.out _ _ trivial (fun hHeld => ?_)
                        clear hK K
                        refine norm_ (a' := ?_) ?_ ?_
                        rotate_left
                        · show Act.put _ (some 95) _ = _
                          simp only [Act.put, List.setIfInBounds_toArray, List.set_cons_zero, List.set_cons_succ, i64_w, i32_w]
                          rfl
                        refine one_ (i := 10) (N := some 100) #[true, true, true, true, true, true, true, true, true, true, true, false, false, false] rfl rfl (one_of HT_.out (by kernel_rfl)) (by decide) (fun K hK => ?_)
                        refine Kd.R_lit_step (Kd.int .i64) _ 3 ?hg (N := 100) ?hd (xs := ([d] : List Int)) (inner := [.int .i64 d]) (ok := fun _ => True) (okp := fun _ => True) ?hr ?hp (fun _ hk => hk) trivial (Below.refl _ _) (Nat.le_refl _) (by simp) ?_; (case hd => rfl); (case hg => rfl); (case hr => first | (go_simp; done) | (go_simp; rfl)); (case hp => exact (Reps.one (show Kd.M (Kd.int .i64) _ _ _ d [.int .i64 d] from rfl) (Reps.none _ _)))
                        intro v176 w156 ho157 hb hg_ hnew_
                        clear hg_ hnew_
                        (first | rw [← Ny175.out] at ho157 | (simp only [Int.reduceToNat] at ho157; rw [← Ny175.out] at ho157))
                        have n0_ := Aside0.mk (Kd.R_elder' (by (with_reducible repeat (first | apply Kd.R_alloc | apply Kd.R_drewN | apply Kd.R_drew)); exact HO174.out) (Kd.R_base ho157) hb)
                        have n1_ := Aside0.mk (Kd.R_elder' (by (with_reducible repeat (first | apply Kd.R_alloc | apply Kd.R_drewN | apply Kd.R_drew)); exact HO168.out) (Kd.R_base ho157) hb)
                        have n2_ := Aside0.mk (Kd.R_elder' (by (with_reducible repeat (first | apply Kd.R_alloc | apply Kd.R_drewN | apply Kd.R_drew)); exact HO171.out) (Kd.R_base ho157) hb)
                        have n3_ := Aside0.mk (Kd.R_lower (Kd.R_new' (Kd.R_new' (Kd.R_new' ho157 (Kd.R_lt (by (with_reducible repeat (first | apply Kd.R_alloc | apply Kd.R_drewN | apply Kd.R_drew)); exact HO174.out))) (Kd.R_lt (by (with_reducible repeat (first | apply Kd.R_alloc | apply Kd.R_drewN | apply Kd.R_drew)); exact HO168.out))) (Kd.R_lt (by (with_reducible repeat (first | apply Kd.R_alloc | apply Kd.R_drewN | apply Kd.R_drew)); exact HO171.out))) (below_size (by repeat (first | (with_reducible first | exact HB.out | apply below_alloc | apply pw_below_drewN | apply below_drew1 | refine below_set ?_ HG.out | refine below_set ?_ HGW.out) | exact HB.out))))
                        have n4_ := Aside0.mk (blk_below (g := gb) (o := .cells #[.int .i64 x.f0, .string x.f1, .int .i64 x.f2, .int .i64 x.f3] 51 (0, 0)) (by (with_reducible repeat (first | refine blk_drewN ?_ _ | refine blk_drew ?_ | refine blk_alloc ?_ _)); exact BK.out) hb)
                        have n5_ := Aside0.mk (blk_below (g := gw) (o := .cells #[.int .i64 x.f0, .string x.f1, .int .i64 A, .int .i64 B] 51 (0, 0)) (by (with_reducible repeat (first | refine blk_drewN ?_ _ | refine blk_drew ?_ | refine blk_alloc ?_ _)); exact BW.out) hb)
                        have n6_ := Aside0.mk (below_step (by repeat (first | (with_reducible first | exact HB.out | apply below_alloc | apply pw_below_drewN | apply below_drew1 | refine below_set ?_ HG.out | refine below_set ?_ HGW.out) | exact HB.out)) hb)
                        clear HO174
                        clear HO168
                        clear HO171
                        clear BK
                        clear BW
                        clear HB
                        have HO174 := n0_
                        have HO168 := n1_
                        have HO171 := n2_
                        have HO177 := n3_
                        have BK := n4_
                        have BW := n5_
                        have HB := n6_
                        clear n0_ n1_ n2_ n3_ n4_ n5_ n6_
                        clear hb ho157
                        refine hK.out _ _ trivial (fun hHeld => ?_)
                        clear hK K
                        refine norm_ (a' := ?_) ?_ ?_
                        rotate_left
                        · show Act.put _ (some 100) _ = _
                          simp only [Act.put, List.setIfInBounds_toArray, List.set_cons_zero, List.set_cons_succ, i64_w, i32_w]
                          rfl
                        exact norm_ (by simp only [putAll, Act.put, List.setIfInBounds_toArray, List.set_cons_zero, List.set_cons_succ]) (hCont (.slice Ao155 y166.length co155, v170, v176) _ ⟨(by (with_reducible repeat (first | apply Kd.R_alloc | apply Kd.R_drewN | apply Kd.R_drew)); exact Kd.R_mono HO168.out (fun _ hk => ⟨hk.1.2, ⟨hk.1.1, hk.2⟩⟩)), (by (with_reducible repeat (first | apply Kd.R_alloc | apply Kd.R_drewN | apply Kd.R_drew)); exact Kd.R_mono HO171.out (fun _ hk => ⟨hk.1.2, ⟨hk.1.1, hk.2⟩⟩)), (by (with_reducible repeat (first | apply Kd.R_alloc | apply Kd.R_drewN | apply Kd.R_drew)); exact Kd.R_mono HO174.out (fun _ hk => ⟨hk.1.1, ⟨hk.1.2, hk.2⟩⟩)), (by (with_reducible repeat (first | apply Kd.R_alloc | apply Kd.R_drewN | apply Kd.R_drew)); exact Kd.R_mono HO177.out (fun _ hk => ⟨hk.1.2, ⟨hk.2, hk.1.1.2⟩⟩)), (by (with_reducible repeat (first | refine blk_drewN ?_ _ | refine blk_drew ?_ | refine blk_alloc ?_ _)); exact BK.out), (by (with_reducible repeat (first | refine blk_drewN ?_ _ | refine blk_drew ?_ | refine blk_alloc ?_ _)); exact BW.out), (by repeat (first | (with_reducible first | exact HB.out | apply below_alloc | apply pw_below_drewN | apply below_drew1 | refine below_set ?_ HG.out | refine below_set ?_ HGW.out) | exact HB.out))⟩)
                      · skip
                        refine Kd.R_lit_step (Kd.int .i64) _ 3 ?hg (N := 100) ?hd (xs := ([d] : List Int)) (inner := [.int .i64 d]) (ok := fun _ => True) (okp := fun _ => True) ?hr ?hp (fun _ hk => hk) trivial (Below.refl _ _) (Nat.le_refl _) (by simp) ?_; (case hd => rfl); (case hg => rfl); (case hr => first | (go_simp; done) | (go_simp; rfl)); (case hp => exact (Reps.one (show Kd.M (Kd.int .i64) _ _ _ d [.int .i64 d] from rfl) (Reps.none _ _)))
                        intro v176 w154 ho155 hb hg_ hnew_
                        clear hg_ hnew_
                        (first | rw [← Ny175.out] at ho155 | (simp only [Int.reduceToNat] at ho155; rw [← Ny175.out] at ho155))
                        have n0_ := Aside0.mk (Kd.R_elder' (by (with_reducible repeat (first | apply Kd.R_alloc | apply Kd.R_drewN | apply Kd.R_drew)); exact HO165.out) (Kd.R_base ho155) hb)
                        have n1_ := Aside0.mk (Kd.R_elder' (by (with_reducible repeat (first | apply Kd.R_alloc | apply Kd.R_drewN | apply Kd.R_drew)); exact HO174.out) (Kd.R_base ho155) hb)
                        have n2_ := Aside0.mk (Kd.R_elder' (by (with_reducible repeat (first | apply Kd.R_alloc | apply Kd.R_drewN | apply Kd.R_drew)); exact HO168.out) (Kd.R_base ho155) hb)
                        have n3_ := Aside0.mk (Kd.R_lower (Kd.R_new' (Kd.R_new' (Kd.R_new' ho155 (Kd.R_lt (by (with_reducible repeat (first | apply Kd.R_alloc | apply Kd.R_drewN | apply Kd.R_drew)); exact HO165.out))) (Kd.R_lt (by (with_reducible repeat (first | apply Kd.R_alloc | apply Kd.R_drewN | apply Kd.R_drew)); exact HO174.out))) (Kd.R_lt (by (with_reducible repeat (first | apply Kd.R_alloc | apply Kd.R_drewN | apply Kd.R_drew)); exact HO168.out))) (below_size (by repeat (first | (with_reducible first | exact HB.out | apply below_alloc | apply pw_below_drewN | apply below_drew1 | refine below_set ?_ HG.out | refine below_set ?_ HGW.out) | exact HB.out))))
                        have n4_ := Aside0.mk (blk_below (g := gb) (o := .cells #[.int .i64 x.f0, .string x.f1, .int .i64 x.f2, .int .i64 x.f3] 51 (0, 0)) (by (with_reducible repeat (first | refine blk_drewN ?_ _ | refine blk_drew ?_ | refine blk_alloc ?_ _)); exact BK.out) hb)
                        have n5_ := Aside0.mk (blk_below (g := gw) (o := .cells #[.int .i64 x.f0, .string x.f1, .int .i64 A, .int .i64 B] 51 (0, 0)) (by (with_reducible repeat (first | refine blk_drewN ?_ _ | refine blk_drew ?_ | refine blk_alloc ?_ _)); exact BW.out) hb)
                        have n6_ := Aside0.mk (below_step (by repeat (first | (with_reducible first | exact HB.out | apply below_alloc | apply pw_below_drewN | apply below_drew1 | refine below_set ?_ HG.out | refine below_set ?_ HGW.out) | exact HB.out)) hb)
                        clear HO165
                        clear HO174
                        clear HO168
                        clear BK
                        clear BW
                        clear HB
                        have HO165 := n0_
                        have HO174 := n1_
                        have HO168 := n2_
                        have HO177 := n3_
                        have BK := n4_
                        have BW := n5_
                        have HB := n6_
                        clear n0_ n1_ n2_ n3_ n4_ n5_ n6_
                        clear hb ho155
                        obtain ⟨Ao157, co157, eo157⟩ := Kd.R_slice HO168.out
                        (first | subst eo157 | (injection eo157 with f1_ f2_ f3_; have f4_ := f1_.symm; have f5_ := f3_.symm; clear f1_ f2_ f3_; subst f4_; subst f5_))
                        refine hK.out _ _ trivial (fun hHeld => ?_)
                        clear hK K
                        refine norm_ (a' := ?_) ?_ ?_
                        rotate_left
                        · show Act.put _ (some 100) _ = _
                          simp only [Act.put, List.setIfInBounds_toArray, List.set_cons_zero, List.set_cons_succ, i64_w, i32_w]
                          rfl
                        refine one_ (i := 5) (N := some 95) #[true, true, true, true, true, true, true, true, true, true, true, false, false, false] rfl rfl (one_of HT_.out (by kernel_rfl)) (by decide) (fun K hK => ?_)
                        refine Kd.R_append_rows_step (Kd.int .i64) (w0 := w) w.heap.size (by rfl) (.tmp 92) (.tmp 94) 52 3 (.int .i64 0) 8 rfl Tryd.underlying52 info3 rfl (by decide) (by omega) (.slice Ao11 y163.length co11) y163 y166 _ _ _ (fun k_ => some k_ ≠ (.slice Ao150 y172.length co150 : Value).ownBlock ∧ some k_ ≠ (.slice Ao157 y166.length co157 : Value).ownBlock ∧ some k_ ≠ (v176 : Value).ownBlock) (fun _ => False) rfl rfl ?aO ?aR (fun _ _ h => h) (fun _ h => h.elim) ?aF ?aB ?aS ?aL ?_
                        (case aR => repeat (first | exact (Kd.R_reads' HO168.out).2.2 | (with_reducible refine Kd.C_alloc ?_ _) | (with_reducible refine Kd.C_drewN ?_ _) | (with_reducible refine Kd.C_drew ?_)))
                        (case aB => exact (by repeat (first | (with_reducible first | exact HB.out | apply below_alloc | apply pw_below_drewN | apply below_drew1 | refine below_set ?_ HG.out | refine below_set ?_ HGW.out) | exact HB.out)))
                        (case aF => exact (fun k_ hk => ⟨Kd.fresh' (Kd.R_lt (by (with_reducible repeat (first | apply Kd.R_alloc | apply Kd.R_drewN | apply Kd.R_drew)); exact HO174.out)) k_ hk, Kd.fresh' (Kd.R_lt (by (with_reducible repeat (first | apply Kd.R_alloc | apply Kd.R_drewN | apply Kd.R_drew)); exact HO168.out)) k_ hk, Kd.fresh' (Kd.R_lt (by (with_reducible repeat (first | apply Kd.R_alloc | apply Kd.R_drewN | apply Kd.R_drew)); exact HO177.out)) k_ hk⟩))
                        (case aO => exact (by (with_reducible repeat (first | apply Kd.R_alloc | apply Kd.R_drewN | apply Kd.R_drew)); exact Kd.R_mono HO165.out (fun _ hk => ⟨hk.1.1, ⟨hk.1.2, hk.2⟩⟩)))
                        (case aS => exact (below_size (by repeat (first | (with_reducible first | exact HB.out | apply below_alloc | apply pw_below_drewN | apply below_drew1 | refine below_set ?_ HG.out | refine below_set ?_ HGW.out) | exact HB.out))))
                        (case aL => have := LMc139.out; omega)
                        intro v170 w156 ho hb hg hat
                        rw [← Ny169.out] at ho
                        have n0_ := Aside0.mk (Kd.R_after (ok := (fun k_ => some k_ ≠ (.slice Ao157 y166.length co157 : Value).ownBlock ∧ some k_ ≠ (v176 : Value).ownBlock)) (by (with_reducible repeat (first | apply Kd.R_alloc | apply Kd.R_drewN | apply Kd.R_drew)); exact Kd.R_mono HO174.out (fun _ hk => ⟨⟨hk.1.2, hk.2⟩, hk.1.1⟩)) hg hat)
                        have n1_ := Aside0.mk (blk_grown (g := gb) (o := .cells #[.int .i64 x.f0, .string x.f1, .int .i64 x.f2, .int .i64 x.f3] 51 (0, 0)) (by (with_reducible repeat (first | refine blk_drewN ?_ _ | refine blk_drew ?_ | refine blk_alloc ?_ _)); exact BK.out) hg (Kd.R_ne HO165.out BK.out (by decide)))
                        have n2_ := Aside0.mk (blk_grown (g := gw) (o := .cells #[.int .i64 x.f0, .string x.f1, .int .i64 A, .int .i64 B] 51 (0, 0)) (by (with_reducible repeat (first | refine blk_drewN ?_ _ | refine blk_drew ?_ | refine blk_alloc ?_ _)); exact BW.out) hg (Kd.R_ne HO165.out BW.out (by decide)))
                        have n3_ := Aside0.mk (Kd.R_after (ok := (fun k_ => some k_ ≠ (.slice Ao150 y172.length co150 : Value).ownBlock ∧ some k_ ≠ (v176 : Value).ownBlock)) (by (with_reducible repeat (first | apply Kd.R_alloc | apply Kd.R_drewN | apply Kd.R_drew)); exact Kd.R_mono HO168.out (fun _ hk => ⟨⟨hk.1.2, hk.2⟩, hk.1.1.2⟩)) hg hat)
                        have n4_ := Aside0.mk (Kd.R_after (ok := (fun k_ => some k_ ≠ (.slice Ao150 y172.length co150 : Value).ownBlock ∧ some k_ ≠ (.slice Ao157 y166.length co157 : Value).ownBlock)) (by (with_reducible repeat (first | apply Kd.R_alloc | apply Kd.R_drewN | apply Kd.R_drew)); exact Kd.R_mono HO177.out (fun _ hk => ⟨⟨hk.1.2, hk.2⟩, hk.1.1.2⟩)) hg hat)
                        have n5_ := Aside0.mk (hb)
                        have n6_ := Aside0.mk (ho)
                        clear HO174
                        clear BK
                        clear BW
                        clear HO168
                        clear HO177
                        clear HB
                        clear HO165
                        have HO174 := n0_
                        have BK := n1_
                        have BW := n2_
                        have HO168 := n3_
                        have HO177 := n4_
                        have HB := n5_
                        have HO171 := n6_
                        clear n0_ n1_ n2_ n3_ n4_ n5_ n6_
                        clear ho hb hg hat
                        refine hK.out _ _ trivial (fun hHeld => ?_)
                        clear hK K
                        refine norm_ (a' := ?_) ?_ ?_
                        rotate_left
                        · show Act.put _ (some 95) _ = _
                          simp only [Act.put, List.setIfInBounds_toArray, List.set_cons_zero, List.set_cons_succ, i64_w, i32_w]
                          rfl
                        exact norm_ (by simp only [putAll, Act.put, List.setIfInBounds_toArray, List.set_cons_zero, List.set_cons_succ]) (hCont (.slice Ao157 y166.length co157, v170, v176) _ ⟨(by (with_reducible repeat (first | apply Kd.R_alloc | apply Kd.R_drewN | apply Kd.R_drew)); exact Kd.R_mono HO168.out (fun _ hk => ⟨hk.2, ⟨hk.1.1, hk.1.2⟩⟩)), (by (with_reducible repeat (first | apply Kd.R_alloc | apply Kd.R_drewN | apply Kd.R_drew)); exact Kd.R_mono HO171.out (fun _ hk => ⟨hk.2.1, ⟨hk.1, hk.2.2⟩⟩)), (by (with_reducible repeat (first | apply Kd.R_alloc | apply Kd.R_drewN | apply Kd.R_drew)); exact Kd.R_mono HO174.out (fun _ hk => ⟨hk.1.1, ⟨hk.2, hk.1.2⟩⟩)), (by (with_reducible repeat (first | apply Kd.R_alloc | apply Kd.R_drewN | apply Kd.R_drew)); exact Kd.R_mono HO177.out (fun _ hk => ⟨hk.1.2, ⟨hk.2, hk.1.1⟩⟩)), (by (with_reducible repeat (first | refine blk_drewN ?_ _ | refine blk_drew ?_ | refine blk_alloc ?_ _)); exact BK.out), (by (with_reducible repeat (first | refine blk_drewN ?_ _ | refine blk_drew ?_ | refine blk_alloc ?_ _)); exact BW.out), (by repeat (first | (with_reducible first | exact HB.out | apply below_alloc | apply pw_below_drewN | apply below_drew1 | refine below_set ?_ HG.out | refine below_set ?_ HGW.out) | exact HB.out))⟩)
                    · skip
                      refine Kd.R_lit_step (Kd.int .i64) _ 3 ?hg (N := 100) ?hd (xs := ([d] : List Int)) (inner := [.int .i64 d]) (ok := fun _ => True) (okp := fun _ => True) ?hr ?hp (fun _ hk => hk) trivial (Below.refl _ _) (Nat.le_refl _) (by simp) ?_; (case hd => rfl); (case hg => rfl); (case hr => first | (go_simp; done) | (go_simp; rfl)); (case hp => exact (Reps.one (show Kd.M (Kd.int .i64) _ _ _ d [.int .i64 d] from rfl) (Reps.none _ _)))
                      intro v176 w152 ho153 hb hg_ hnew_
                      clear hg_ hnew_
                      (first | rw [← Ny175.out] at ho153 | (simp only [Int.reduceToNat] at ho153; rw [← Ny175.out] at ho153))
                      have n0_ := Aside0.mk (Kd.R_elder' (by (with_reducible repeat (first | apply Kd.R_alloc | apply Kd.R_drewN | apply Kd.R_drew)); exact HO165.out) (Kd.R_base ho153) hb)
                      have n1_ := Aside0.mk (Kd.R_elder' (by (with_reducible repeat (first | apply Kd.R_alloc | apply Kd.R_drewN | apply Kd.R_drew)); exact HO174.out) (Kd.R_base ho153) hb)
                      have n2_ := Aside0.mk (Kd.R_lower (Kd.R_new' (Kd.R_new' ho153 (Kd.R_lt (by (with_reducible repeat (first | apply Kd.R_alloc | apply Kd.R_drewN | apply Kd.R_drew)); exact HO165.out))) (Kd.R_lt (by (with_reducible repeat (first | apply Kd.R_alloc | apply Kd.R_drewN | apply Kd.R_drew)); exact HO174.out))) (below_size (by repeat (first | (with_reducible first | exact HB.out | apply below_alloc | apply pw_below_drewN | apply below_drew1 | refine below_set ?_ HG.out | refine below_set ?_ HGW.out) | exact HB.out))))
                      have n3_ := Aside0.mk (blk_below (g := gb) (o := .cells #[.int .i64 x.f0, .string x.f1, .int .i64 x.f2, .int .i64 x.f3] 51 (0, 0)) (by (with_reducible repeat (first | refine blk_drewN ?_ _ | refine blk_drew ?_ | refine blk_alloc ?_ _)); exact BK.out) hb)
                      have n4_ := Aside0.mk (blk_below (g := gw) (o := .cells #[.int .i64 x.f0, .string x.f1, .int .i64 A, .int .i64 B] 51 (0, 0)) (by (with_reducible repeat (first | refine blk_drewN ?_ _ | refine blk_drew ?_ | refine blk_alloc ?_ _)); exact BW.out) hb)
                      have n5_ := Aside0.mk (below_step (by repeat (first | (with_reducible first | exact HB.out | apply below_alloc | apply pw_below_drewN | apply below_drew1 | refine below_set ?_ HG.out | refine below_set ?_ HGW.out) | exact HB.out)) hb)
                      clear HO165
                      clear HO174
                      clear BK
                      clear BW
                      clear HB
                      have HO165 := n0_
                      have HO174 := n1_
                      have HO177 := n2_
                      have BK := n3_
                      have BW := n4_
                      have HB := n5_
                      clear n0_ n1_ n2_ n3_ n4_ n5_
                      clear hb ho153
                      refine hK.out _ _ trivial (fun hHeld => ?_)
                      clear hK K
                      refine norm_ (a' := ?_) ?_ ?_
                      rotate_left
                      · show Act.put _ (some 100) _ = _
                        simp only [Act.put, List.setIfInBounds_toArray, List.set_cons_zero, List.set_cons_succ, i64_w, i32_w]
                        rfl
                      refine one_ (i := 4) (N := some 94) #[true, true, true, true, true, false, true, true, true, true, true, false, false, false] rfl rfl (one_of HT_.out (by kernel_rfl)) (by decide) (fun K hK => ?_)
                      refine Kd.R_lit_step (Kd.int .i64) _ 3 ?hg (N := 94) ?hd (xs := ([(i : Int)] : List Int)) (inner := [.int .i64 (i : Int)]) (ok := fun _ => True) (okp := fun _ => True) ?hr ?hp (fun _ hk => hk) trivial (Below.refl _ _) (Nat.le_refl _) (by simp) ?_; (case hd => rfl); (case hg => rfl); (case hr => first | (go_simp; done) | (go_simp; rfl)); (case hp => exact (Reps.one (show Kd.M (Kd.int .i64) _ _ _ (i : Int) [.int .i64 (i : Int)] from rfl) (Reps.none _ _)))
                      intro v167 w154 ho155 hb hg_ hnew_
                      clear hg_ hnew_
                      (first | rw [← Ny166.out] at ho155 | (simp only [Int.reduceToNat] at ho155; rw [← Ny166.out] at ho155))
                      have n0_ := Aside0.mk (Kd.R_elder' (by (with_reducible repeat (first | apply Kd.R_alloc | apply Kd.R_drewN | apply Kd.R_drew)); exact HO165.out) (Kd.R_base ho155) hb)
                      have n1_ := Aside0.mk (Kd.R_elder' (by (with_reducible repeat (first | apply Kd.R_alloc | apply Kd.R_drewN | apply Kd.R_drew)); exact HO174.out) (Kd.R_base ho155) hb)
                      have n2_ := Aside0.mk (Kd.R_elder' (by (with_reducible repeat (first | apply Kd.R_alloc | apply Kd.R_drewN | apply Kd.R_drew)); exact HO177.out) (Kd.R_base ho155) hb)
                      have n3_ := Aside0.mk (Kd.R_lower (Kd.R_new' (Kd.R_new' (Kd.R_new' ho155 (Kd.R_lt (by (with_reducible repeat (first | apply Kd.R_alloc | apply Kd.R_drewN | apply Kd.R_drew)); exact HO165.out))) (Kd.R_lt (by (with_reducible repeat (first | apply Kd.R_alloc | apply Kd.R_drewN | apply Kd.R_drew)); exact HO174.out))) (Kd.R_lt (by (with_reducible repeat (first | apply Kd.R_alloc | apply Kd.R_drewN | apply Kd.R_drew)); exact HO177.out))) (below_size (by repeat (first | (with_reducible first | exact HB.out | apply below_alloc | apply pw_below_drewN | apply below_drew1 | refine below_set ?_ HG.out | refine below_set ?_ HGW.out) | exact HB.out))))
                      have n4_ := Aside0.mk (blk_below (g := gb) (o := .cells #[.int .i64 x.f0, .string x.f1, .int .i64 x.f2, .int .i64 x.f3] 51 (0, 0)) (by (with_reducible repeat (first | refine blk_drewN ?_ _ | refine blk_drew ?_ | refine blk_alloc ?_ _)); exact BK.out) hb)
                      have n5_ := Aside0.mk (blk_below (g := gw) (o := .cells #[.int .i64 x.f0, .string x.f1, .int .i64 A, .int .i64 B] 51 (0, 0)) (by (with_reducible repeat (first | refine blk_drewN ?_ _ | refine blk_drew ?_ | refine blk_alloc ?_ _)); exact BW.out) hb)
                      have n6_ := Aside0.mk (below_step (by repeat (first | (with_reducible first | exact HB.out | apply below_alloc | apply pw_below_drewN | apply below_drew1 | refine below_set ?_ HG.out | refine below_set ?_ HGW.out) | exact HB.out)) hb)
                      clear HO165
                      clear HO174
                      clear HO177
                      clear BK
                      clear BW
                      clear HB
                      have HO165 := n0_
                      have HO174 := n1_
                      have HO177 := n2_
                      have HO168 := n3_
                      have BK := n4_
                      have BW := n5_
                      have HB := n6_
                      clear n0_ n1_ n2_ n3_ n4_ n5_ n6_
                      clear hb ho155
                      obtain ⟨Ao157, co157, eo157⟩ := Kd.R_slice HO168.out
                      (first | subst eo157 | (injection eo157 with f1_ f2_ f3_; have f4_ := f1_.symm; have f5_ := f3_.symm; clear f1_ f2_ f3_; subst f4_; subst f5_))
                      refine hK.out _ _ trivial (fun hHeld => ?_)
                      clear hK K
                      refine norm_ (a' := ?_) ?_ ?_
                      rotate_left
                      · show Act.put _ (some 94) _ = _
                        simp only [Act.put, List.setIfInBounds_toArray, List.set_cons_zero, List.set_cons_succ, i64_w, i32_w]
                        rfl
                      refine one_ (i := 5) (N := some 95) #[true, true, true, true, true, true, true, true, true, true, true, false, false, false] rfl rfl (one_of HT_.out (by kernel_rfl)) (by decide) (fun K hK => ?_)
                      refine Kd.R_append_rows_step (Kd.int .i64) (w0 := w) w.heap.size (by rfl) (.tmp 92) (.tmp 94) 52 3 (.int .i64 0) 8 rfl Tryd.underlying52 info3 rfl (by decide) (by omega) (.slice Ao11 y163.length co11) y163 y166 _ _ _ (fun k_ => some k_ ≠ (.slice Ao150 y172.length co150 : Value).ownBlock ∧ some k_ ≠ (v176 : Value).ownBlock ∧ some k_ ≠ (.slice Ao157 y166.length co157 : Value).ownBlock) (fun _ => False) rfl rfl ?aO ?aR (fun _ _ h => h) (fun _ h => h.elim) ?aF ?aB ?aS ?aL ?_
                      (case aR => repeat (first | exact (Kd.R_reads' HO168.out).2.2 | (with_reducible refine Kd.C_alloc ?_ _) | (with_reducible refine Kd.C_drewN ?_ _) | (with_reducible refine Kd.C_drew ?_)))
                      (case aB => exact (by repeat (first | (with_reducible first | exact HB.out | apply below_alloc | apply pw_below_drewN | apply below_drew1 | refine below_set ?_ HG.out | refine below_set ?_ HGW.out) | exact HB.out)))
                      (case aF => exact (fun k_ hk => ⟨Kd.fresh' (Kd.R_lt (by (with_reducible repeat (first | apply Kd.R_alloc | apply Kd.R_drewN | apply Kd.R_drew)); exact HO174.out)) k_ hk, Kd.fresh' (Kd.R_lt (by (with_reducible repeat (first | apply Kd.R_alloc | apply Kd.R_drewN | apply Kd.R_drew)); exact HO177.out)) k_ hk, Kd.fresh' (Kd.R_lt (by (with_reducible repeat (first | apply Kd.R_alloc | apply Kd.R_drewN | apply Kd.R_drew)); exact HO168.out)) k_ hk⟩))
                      (case aO => exact (by (with_reducible repeat (first | apply Kd.R_alloc | apply Kd.R_drewN | apply Kd.R_drew)); exact Kd.R_mono HO165.out (fun _ hk => ⟨hk.1.1, ⟨hk.1.2, hk.2⟩⟩)))
                      (case aS => exact (below_size (by repeat (first | (with_reducible first | exact HB.out | apply below_alloc | apply pw_below_drewN | apply below_drew1 | refine below_set ?_ HG.out | refine below_set ?_ HGW.out) | exact HB.out))))
                      (case aL => have := LMc139.out; omega)
                      intro v170 w156 ho hb hg hat
                      rw [← Ny169.out] at ho
                      have n0_ := Aside0.mk (Kd.R_after (ok := (fun k_ => some k_ ≠ (v176 : Value).ownBlock ∧ some k_ ≠ (.slice Ao157 y166.length co157 : Value).ownBlock)) (by (with_reducible repeat (first | apply Kd.R_alloc | apply Kd.R_drewN | apply Kd.R_drew)); exact Kd.R_mono HO174.out (fun _ hk => ⟨⟨hk.1.2, hk.2⟩, hk.1.1⟩)) hg hat)
                      have n1_ := Aside0.mk (blk_grown (g := gb) (o := .cells #[.int .i64 x.f0, .string x.f1, .int .i64 x.f2, .int .i64 x.f3] 51 (0, 0)) (by (with_reducible repeat (first | refine blk_drewN ?_ _ | refine blk_drew ?_ | refine blk_alloc ?_ _)); exact BK.out) hg (Kd.R_ne HO165.out BK.out (by decide)))
                      have n2_ := Aside0.mk (blk_grown (g := gw) (o := .cells #[.int .i64 x.f0, .string x.f1, .int .i64 A, .int .i64 B] 51 (0, 0)) (by (with_reducible repeat (first | refine blk_drewN ?_ _ | refine blk_drew ?_ | refine blk_alloc ?_ _)); exact BW.out) hg (Kd.R_ne HO165.out BW.out (by decide)))
                      have n3_ := Aside0.mk (Kd.R_after (ok := (fun k_ => some k_ ≠ (.slice Ao150 y172.length co150 : Value).ownBlock ∧ some k_ ≠ (.slice Ao157 y166.length co157 : Value).ownBlock)) (by (with_reducible repeat (first | apply Kd.R_alloc | apply Kd.R_drewN | apply Kd.R_drew)); exact Kd.R_mono HO177.out (fun _ hk => ⟨⟨hk.1.2, hk.2⟩, hk.1.1.2⟩)) hg hat)
                      have n4_ := Aside0.mk (Kd.R_after (ok := (fun k_ => some k_ ≠ (.slice Ao150 y172.length co150 : Value).ownBlock ∧ some k_ ≠ (v176 : Value).ownBlock)) (by (with_reducible repeat (first | apply Kd.R_alloc | apply Kd.R_drewN | apply Kd.R_drew)); exact Kd.R_mono HO168.out (fun _ hk => ⟨⟨hk.1.2, hk.2⟩, hk.1.1.2⟩)) hg hat)
                      have n5_ := Aside0.mk (hb)
                      have n6_ := Aside0.mk (ho)
                      clear HO174
                      clear BK
                      clear BW
                      clear HO177
                      clear HO168
                      clear HB
                      clear HO165
                      have HO174 := n0_
                      have BK := n1_
                      have BW := n2_
                      have HO177 := n3_
                      have HO168 := n4_
                      have HB := n5_
                      have HO171 := n6_
                      clear n0_ n1_ n2_ n3_ n4_ n5_ n6_
                      clear ho hb hg hat
                      refine hK.out _ _ trivial (fun hHeld => ?_)
                      clear hK K
                      refine norm_ (a' := ?_) ?_ ?_
                      rotate_left
                      · show Act.put _ (some 95) _ = _
                        simp only [Act.put, List.setIfInBounds_toArray, List.set_cons_zero, List.set_cons_succ, i64_w, i32_w]
                        rfl
                      exact norm_ (by simp only [putAll, Act.put, List.setIfInBounds_toArray, List.set_cons_zero, List.set_cons_succ]) (hCont (.slice Ao157 y166.length co157, v170, v176) _ ⟨(by (with_reducible repeat (first | apply Kd.R_alloc | apply Kd.R_drewN | apply Kd.R_drew)); exact Kd.R_mono HO168.out (fun _ hk => ⟨hk.2, ⟨hk.1.1, hk.1.2⟩⟩)), (by (with_reducible repeat (first | apply Kd.R_alloc | apply Kd.R_drewN | apply Kd.R_drew)); exact Kd.R_mono HO171.out (fun _ hk => ⟨hk.2.2, ⟨hk.1, hk.2.1⟩⟩)), (by (with_reducible repeat (first | apply Kd.R_alloc | apply Kd.R_drewN | apply Kd.R_drew)); exact Kd.R_mono HO174.out (fun _ hk => ⟨hk.1.2, ⟨hk.2, hk.1.1⟩⟩)), (by (with_reducible repeat (first | apply Kd.R_alloc | apply Kd.R_drewN | apply Kd.R_drew)); exact Kd.R_mono HO177.out (fun _ hk => ⟨hk.1.2, ⟨hk.2, hk.1.1⟩⟩)), (by (with_reducible repeat (first | refine blk_drewN ?_ _ | refine blk_drew ?_ | refine blk_alloc ?_ _)); exact BK.out), (by (with_reducible repeat (first | refine blk_drewN ?_ _ | refine blk_drew ?_ | refine blk_alloc ?_ _)); exact BW.out), (by repeat (first | (with_reducible first | exact HB.out | apply below_alloc | apply pw_below_drewN | apply below_drew1 | refine below_set ?_ HG.out | refine below_set ?_ HGW.out) | exact HB.out))⟩)
                  rintro ⟨v167, v170, v176⟩ w158 ⟨h0_, h1_, h2_, h3_, h4_, h5_, h6_⟩
                  have n0_ : Aside0 (Kd.R (Kd.int .i64) 3 w158 w.heap.size (fun k_ => some k_ ≠ (v170 : Value).ownBlock ∧ some k_ ≠ (.slice Ao150 y172.length co150 : Value).ownBlock ∧ some k_ ≠ (v176 : Value).ownBlock) v167 y166) := ⟨h0_⟩
                  have n1_ : Aside0 (Kd.R (Kd.int .i64) 3 w158 w.heap.size (fun k_ => some k_ ≠ (v167 : Value).ownBlock ∧ some k_ ≠ (.slice Ao150 y172.length co150 : Value).ownBlock ∧ some k_ ≠ (v176 : Value).ownBlock) v170 y169) := ⟨h1_⟩
                  have n2_ : Aside0 (Kd.R (Kd.int .i64) 3 w158 w.heap.size (fun k_ => some k_ ≠ (v167 : Value).ownBlock ∧ some k_ ≠ (v170 : Value).ownBlock ∧ some k_ ≠ (v176 : Value).ownBlock) (.slice Ao150 y172.length co150) y172) := ⟨h2_⟩
                  have n3_ : Aside0 (Kd.R (Kd.int .i64) 3 w158 w.heap.size (fun k_ => some k_ ≠ (v167 : Value).ownBlock ∧ some k_ ≠ (v170 : Value).ownBlock ∧ some k_ ≠ (.slice Ao150 y172.length co150 : Value).ownBlock) v176 y175) := ⟨h3_⟩
                  have n4_ : Aside0 (w158.heap[gb]? = some (.cells #[.int .i64 x.f0, .string x.f1, .int .i64 x.f2, .int .i64 x.f3] 51 (0, 0))) := ⟨h4_⟩
                  have n5_ : Aside0 (w158.heap[gw]? = some (.cells #[.int .i64 x.f0, .string x.f1, .int .i64 A, .int .i64 B] 51 (0, 0))) := ⟨h5_⟩
                  have n6_ : Aside0 (Below w.heap.size w w158) := ⟨h6_⟩
                  try clear HO_3
                  try clear HO_4
                  clear BK
                  clear BW
                  clear HB
                  clear h0_ h1_ h2_ h3_ h4_ h5_ h6_
                  have HO168 := n0_
                  have HO171 := n1_
                  have HO174 := n2_
                  have HO177 := n3_
                  have BK := n4_
                  have BW := n5_
                  have HB := n6_
                  clear n0_ n1_ n2_ n3_ n4_ n5_ n6_
                  have hHeld := trivial
                  obtain ⟨Ao160, co160, eo160⟩ := Kd.R_slice HO177.out
                  (first | subst eo160 | (injection eo160 with f1_ f2_ f3_; have f4_ := f1_.symm; have f5_ := f3_.symm; clear f1_ f2_ f3_; subst f4_; subst f5_))
                  refine norm_ (a' := ?_) ?_ ?_
                  rotate_left
                  · simp only [putAll, Act.put, List.setIfInBounds_toArray, List.set_cons_zero, List.set_cons_succ]
                    rfl
                  refine one_ (i := 11) (N := some 101) #[true, true, true, true, true, true, true, true, true, true, true, true, false, false] rfl rfl (one_of HT_.out (by kernel_rfl)) (by decide) (fun K hK => ?_)
                  refine Kd.R_append_rows_step (Kd.int .i64) (w0 := w) w.heap.size (by rfl) (.tmp 98) (.tmp 100) 52 3 (.int .i64 0) 8 rfl Tryd.underlying52 info3 rfl (by decide) (by omega) (.slice Ao150 y172.length co150) y172 y175 _ _ _ (fun k_ => some k_ ≠ (v167 : Value).ownBlock ∧ some k_ ≠ (v170 : Value).ownBlock ∧ some k_ ≠ (.slice Ao160 y175.length co160 : Value).ownBlock) (fun _ => False) rfl rfl ?aO ?aR (fun _ _ h => h) (fun _ h => h.elim) ?aF ?aB ?aS ?aL ?_
                  (case aR => repeat (first | exact (Kd.R_reads' HO177.out).2.2 | (with_reducible refine Kd.C_alloc ?_ _) | (with_reducible refine Kd.C_drewN ?_ _) | (with_reducible refine Kd.C_drew ?_)))
                  (case aB => exact (by repeat (first | (with_reducible first | exact HB.out | apply below_alloc | apply pw_below_drewN | apply below_drew1 | refine below_set ?_ HG.out | refine below_set ?_ HGW.out) | exact HB.out)))
                  (case aF => exact (fun k_ hk => ⟨Kd.fresh' (Kd.R_lt (by (with_reducible repeat (first | apply Kd.R_alloc | apply Kd.R_drewN | apply Kd.R_drew)); exact HO168.out)) k_ hk, Kd.fresh' (Kd.R_lt (by (with_reducible repeat (first | apply Kd.R_alloc | apply Kd.R_drewN | apply Kd.R_drew)); exact HO171.out)) k_ hk, Kd.fresh' (Kd.R_lt (by (with_reducible repeat (first | apply Kd.R_alloc | apply Kd.R_drewN | apply Kd.R_drew)); exact HO177.out)) k_ hk⟩))
                  (case aO => exact (by (with_reducible repeat (first | apply Kd.R_alloc | apply Kd.R_drewN | apply Kd.R_drew)); exact HO174.out))
                  (case aS => exact (below_size (by repeat (first | (with_reducible first | exact HB.out | apply below_alloc | apply pw_below_drewN | apply below_drew1 | refine below_set ?_ HG.out | refine below_set ?_ HGW.out) | exact HB.out))))
                  (case aL => have := LMc141.out; omega)
                  intro v179 w159 ho hb hg hat
                  rw [← Ny178.out] at ho
                  have n0_ := Aside0.mk (blk_grown (g := gb) (o := .cells #[.int .i64 x.f0, .string x.f1, .int .i64 x.f2, .int .i64 x.f3] 51 (0, 0)) (by (with_reducible repeat (first | refine blk_drewN ?_ _ | refine blk_drew ?_ | refine blk_alloc ?_ _)); exact BK.out) hg (Kd.R_ne HO174.out BK.out (by decide)))
                  have n1_ := Aside0.mk (blk_grown (g := gw) (o := .cells #[.int .i64 x.f0, .string x.f1, .int .i64 A, .int .i64 B] 51 (0, 0)) (by (with_reducible repeat (first | refine blk_drewN ?_ _ | refine blk_drew ?_ | refine blk_alloc ?_ _)); exact BW.out) hg (Kd.R_ne HO174.out BW.out (by decide)))
                  have n2_ := Aside0.mk (Kd.R_after (ok := (fun k_ => some k_ ≠ (v170 : Value).ownBlock ∧ some k_ ≠ (.slice Ao160 y175.length co160 : Value).ownBlock)) (by (with_reducible repeat (first | apply Kd.R_alloc | apply Kd.R_drewN | apply Kd.R_drew)); exact Kd.R_mono HO168.out (fun _ hk => ⟨⟨hk.1, hk.2.2⟩, hk.2.1⟩)) hg hat)
                  have n3_ := Aside0.mk (Kd.R_after (ok := (fun k_ => some k_ ≠ (v167 : Value).ownBlock ∧ some k_ ≠ (.slice Ao160 y175.length co160 : Value).ownBlock)) (by (with_reducible repeat (first | apply Kd.R_alloc | apply Kd.R_drewN | apply Kd.R_drew)); exact Kd.R_mono HO171.out (fun _ hk => ⟨⟨hk.1, hk.2.2⟩, hk.2.1⟩)) hg hat)
                  have n4_ := Aside0.mk (Kd.R_after (ok := (fun k_ => some k_ ≠ (v167 : Value).ownBlock ∧ some k_ ≠ (v170 : Value).ownBlock)) (by (with_reducible repeat (first | apply Kd.R_alloc | apply Kd.R_drewN | apply Kd.R_drew)); exact Kd.R_mono HO177.out (fun _ hk => ⟨⟨hk.1, hk.2.1⟩, hk.2.2⟩)) hg hat)
                  have n5_ := Aside0.mk (hb)
                  have n6_ := Aside0.mk (ho)
                  clear BK
                  clear BW
                  clear HO168
                  clear HO171
                  clear HO177
                  clear HB
                  clear HO174
                  have BK := n0_
                  have BW := n1_
                  have HO168 := n2_
                  have HO171 := n3_
                  have HO177 := n4_
                  have HB := n5_
                  have HO180 := n6_
                  clear n0_ n1_ n2_ n3_ n4_ n5_ n6_
                  clear ho hb hg hat
                  refine hK.out _ _ trivial (fun hHeld => ?_)
                  clear hK K
                  refine norm_ (a' := ?_) ?_ ?_
                  rotate_left
                  · show Act.put _ (some 101) _ = _
                    simp only [Act.put, List.setIfInBounds_toArray, List.set_cons_zero, List.set_cons_succ, i64_w, i32_w]
                    rfl
                  refine pure_ (i := 12) (N := some 3) (v := ?_) (a' := ?_) #[true, true, true, true, true, true, true, true, true, true, true, true, true, false] rfl rfl (any_of HT_.out (by kernel_rfl)) (fun _ _ _ h => h) (Or.inl ⟨by rfl, ?_⟩) ?_ ?_
                  rotate_left
                  · (intro w'; go_simp; with_reducible rfl)
                  rotate_left
                  · (simp only [Act.put, List.setIfInBounds_toArray, List.set_cons_zero, List.set_cons_succ, i64_w, i32_w]; rfl)
                  refine pure_ (i := 13) (N := some 4) (v := ?_) (a' := ?_) #[true, true, true, true, true, true, true, true, true, true, true, true, true, true] rfl rfl (any_of HT_.out (by kernel_rfl)) (fun _ _ _ h => h) (Or.inl ⟨by rfl, ?_⟩) ?_ ?_
                  rotate_left
                  · (intro w'; go_simp; with_reducible rfl)
                  rotate_left
                  · (simp only [Act.put, List.setIfInBounds_toArray, List.set_cons_zero, List.set_cons_succ, i64_w, i32_w]; rfl)
                  refine done_ (done_of HT_.out (by kernel_rfl)) ?_
                  try go_wp2
                  go_roundw
                  case measure => simp [intOf]; omega
                  case rel => exact ⟨i + 1, ((i : Int), d) :: st.drop (nms x.f0), by simp, ⟨⟨by omega, by simp [List.length_drop]; have := HI.out; omega, fun p hp => by
                      rcases List.mem_cons.1 hp with rfl | hp
                      · have := Hdp.out; simp only; omega
                      · have := HI.out.2.2 p (List.mem_of_mem_drop hp); omega⟩⟩, HN, ⟨by rw [← HOP.out]; exact Kd.R_mono HO171.out (fun _ hk => hk.2)⟩, ⟨by rw [← HDP.out]; exact Kd.R_mono HO180.out (fun _ hk => hk.2.1)⟩, HB⟩
                · have hr : r = 120 := by
                    have h1 := HA1.out
                    rw [if_neg heq] at hc1
                    rw [hc1] at h1
                    exact h1.symm
                  rcases Int.decEq x.f2 A with h2 | h2
                  · have e2 : (x.f2 == A) = false := by simp [h2]
                    clear h2 heq hc1
                    go_wp2
                    go_ret
                    exact ⟨by rw [hr]; rfl, HB.out⟩
                  · have e2 : (x.f2 == A) = true := by simp [h2]
                    have e3 : (x.f3 == B) = false := by simp; exact fun h3 => heq ⟨h2, h3⟩
                    clear h2 heq hc1
                    go_wp2
                    go_ret
                    exact ⟨by rw [hr]; rfl, HB.out⟩
        · have hin : i = l0.length := by have := HI.out; omega
          subst hin
          have hd : decide ((l0.length : Int) < (l0.length : Int)) = false := by simp
          have hA := HA.out
          rw [List.drop_length] at hA
          simp only [chkN] at hA
          obtain ⟨Ao11, co11, eo11⟩ := Kd.R_slice HO_3.out
          subst eo11
          obtain ⟨Ao12, co12, eo12⟩ := Kd.R_slice HO_4.out
          subst eo12
          by_cases h1 : st.length = 1
          · obtain ⟨pq, rfl⟩ := List.length_eq_one_iff.1 h1
            obtain ⟨p, d⟩ := pq
            have hl1 : (ops [(p, d)]).length = 1 := rfl
            have hl2 : (dps [(p, d)]).length = 1 := rfl
            obtain ⟨ad, e, hx0⟩ := Kd.at_int (Kd.R_reads' HO_4.out).2.2 0 (by omega) (by rw [hl2]; omega)
            cases e
            have hx1 : wr.cell? ad = some (.int .i64 d) := by
              have h2 : ad.add (0 : Int).toNat = ad := by obtain ⟨b, o, s⟩ := ad; cases s <;> rfl
              rw [h2] at hx0; rw [hx0]; rfl
            clear hx0
            simp only [chkE] at hA
            rw [hl1] at *
            rw [hl2]
            by_cases h40 : 40 < d
            · rw [if_pos h40] at hA
              have hb : decide (40 < d) = true := decide_eq_true h40
              subst hA
              clear h40
              go_wp2
              go_ret
              exact ⟨rfl, HBr.out⟩
            · rw [if_neg h40] at hA
              have hb : decide (40 < d) = false := decide_eq_false h40
              subst hA
              clear h40
              go_wp2
              go_ret
              exact ⟨rfl, HBr.out⟩
          · have hr : r = 120 := by
              rw [← hA]; unfold chkE
              split
              · rename_i h2; cases h2; simp at h1
              · rfl
            have hl1 : (((ops st).length : Int) == 1) = false := by rw [ops_len]; simp; omega
            have hl1b : ((ops st).length == 1) = false := by rw [ops_len]; simp; omega
            have hl1c : ¬ (((ops st).length : Int) = 1) := by rw [ops_len]; omega
            have Hr := Aside0.mk hr
            clear hr hl1 hl1b h1
            go_wp2
            go_ret
            exact ⟨by rw [Hr.out]; rfl, HBr.out⟩
  · cases h
end Go.Proofs.YtfnikmkjhbbbgaaDoor.HExpr
