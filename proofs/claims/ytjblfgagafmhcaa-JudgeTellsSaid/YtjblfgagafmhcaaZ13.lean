/- Part 13 of the proof of one statement: what is written for it by hand and by a program of this seat's, over the given program's form. Conditions: none. -/
import Derived.Test.YtjblfgagafmhcaaZ7
import Derived.Test.YtjblfgagafmhcaaZ12
set_option linter.unusedVariables false
set_option linter.unusedSimpArgs false
namespace Go.Proofs.Ytjblfgagafmhcaa.K
open Go.RowKit Go.Proofs.YtjblfgagafmhcaaW.PrintWords Go.Proofs.YtjblfgagafmhcaaW.PrintLast Go.Proofs.YtjblfgagafmhcaaW.PrintMore
attribute [local go_sem] max2_int min2_int max_two min_two max_three min_three max_four min_four   -- for this text's walks alone
set_option linter.unusedVariables false
set_option linter.unusedSimpArgs false
noncomputable section
mutual
def footwayref20_Where.l0 : Nat → List (S80) → ByteArray → Int → List Int → Int → Option (List Int)
 | 0, _, _, _, _, _ => none
 | k + 1, x0, x1, x2, x7, x8 => if x8 < x2 then (footwayref20_Where.l1 k x0 x1 x2 x7 x8 0 x0 (x0.length : Int) 0) else (some x7)
def footwayref20_Where.l1 : Nat → List (S80) → ByteArray → Int → List Int → Int → Int → List (S80) → Int → Int → Option (List Int)
 | 0, _, _, _, _, _, _, _, _, _ => none
 | k + 1, x0, x1, x2, x7, x8, x9, x18, x19, x20 => if x20 < x19 then (if 0 ≤ x20 then (if x20 < (x18.length : Int) then (if ((rd_T80 x18 x20).f1) = x8 then (if ((rd_T80 x18 x20).f4).toList = x1.toList then (footwayref20_Where.l1 k x0 x1 x2 x7 x8 (wrap64 (x9 + 1)) x18 x19 (wrap64 (x20 + 1))) else (footwayref20_Where.l1 k x0 x1 x2 x7 x8 x9 x18 x19 (wrap64 (x20 + 1)))) else (footwayref20_Where.l1 k x0 x1 x2 x7 x8 x9 x18 x19 (wrap64 (x20 + 1)))) else (none)) else (none)) else (if x7.length < 17592186044416 then (footwayref20_Where.l0 k x0 x1 x2 (x7 ++ [x9]) (wrap64 (x8 + 1))) else (none))
end
def footwayref20_Where.f (k : Nat) (l0 : List (S80)) (a1 : ByteArray) (a2 : Int) : Option (List Int) := footwayref20_Where.l0 k l0 a1 a2 (([] : List Int)) 0
theorem footwayref20_Where.mono_l : ∀ k, (∀ y0 y1 y2 y3 y4, LeO (footwayref20_Where.l0 k y0 y1 y2 y3 y4) (footwayref20_Where.l0 (k + 1) y0 y1 y2 y3 y4)) ∧ (∀ y0 y1 y2 y3 y4 y5 y6 y7 y8, LeO (footwayref20_Where.l1 k y0 y1 y2 y3 y4 y5 y6 y7 y8) (footwayref20_Where.l1 (k + 1) y0 y1 y2 y3 y4 y5 y6 y7 y8))
 | 0 => ⟨fun _ _ _ _ _ r h => by simp [footwayref20_Where.l0] at h, fun _ _ _ _ _ _ _ _ _ r h => by simp [footwayref20_Where.l1] at h⟩
 | k + 1 => by
  obtain ⟨ih0, ih1⟩ := footwayref20_Where.mono_l k
  refine ⟨?_, ?_⟩
  ·intro y0 y1 y2 y3 y4
   unfold footwayref20_Where.l0
   repeat' first
   | (with_reducible exact ih0 _ _ _ _ _)
   | (with_reducible exact ih1 _ _ _ _ _ _ _ _ _)
   | (with_reducible exact LeO.refl _)
   | (with_reducible exact LeO.none _)
   | (with_reducible refine LeO.ite ?_ ?_)
   | (with_reducible refine LeO.bind ?_ (fun _ => ?_))
   | exact ih0 _ _ _ _ _
   | exact ih1 _ _ _ _ _ _ _ _ _
   | exact LeO.none _
   | refine LeO.ite ?_ ?_
   | refine LeO.bind ?_ (fun _ => ?_)
  ·intro y0 y1 y2 y3 y4 y5 y6 y7 y8
   unfold footwayref20_Where.l1
   repeat' first
   | (with_reducible exact ih0 _ _ _ _ _)
   | (with_reducible exact ih1 _ _ _ _ _ _ _ _ _)
   | (with_reducible exact LeO.refl _)
   | (with_reducible exact LeO.none _)
   | (with_reducible refine LeO.ite ?_ ?_)
   | (with_reducible refine LeO.bind ?_ (fun _ => ?_))
   | exact ih0 _ _ _ _ _
   | exact ih1 _ _ _ _ _ _ _ _ _
   | exact LeO.none _
   | refine LeO.ite ?_ ?_
   | refine LeO.bind ?_ (fun _ => ?_)
theorem footwayref20_Where.mono : ∀ a0 a1 a2 k, LeO (footwayref20_Where.f k a0 a1 a2) (footwayref20_Where.f (k + 1) a0 a1 a2) := by
 intro a0 a1 a2 k
 obtain ⟨ih0, ih1⟩ := footwayref20_Where.mono_l k
 unfold footwayref20_Where.f
 repeat' first
   | (with_reducible exact ih0 _ _ _ _ _)
   | (with_reducible exact ih1 _ _ _ _ _ _ _ _ _)
   | (with_reducible exact LeO.refl _)
   | (with_reducible exact LeO.none _)
   | (with_reducible refine LeO.ite ?_ ?_)
   | (with_reducible refine LeO.bind ?_ (fun _ => ?_))
   | exact ih0 _ _ _ _ _
   | exact ih1 _ _ _ _ _ _ _ _ _
   | exact LeO.none _
   | refine LeO.ite ?_ ?_
   | refine LeO.bind ?_ (fun _ => ?_)
set_option maxHeartbeats 8000000 in
set_option maxRecDepth 100000 in
theorem footwayref20_Where.calls (k : Nat) (A0 : Option Addr) (c0 : Nat) (l0 : List (S80)) (a1 : ByteArray) (a2 : Int) (r : List Int) (w : World) (hr0 : Kd.C k80 w A0 l0.length l0) (hc0 : l0.length ≤ c0) (h : footwayref20_Where.f k l0 a1 a2 = some r) :
  Calls Try.prog 19 #[.slice A0 l0.length c0, .string a1, .int .i64 a2] w fun e w' => ∃ v0_ : Value, e = .returned (v0_) ∧ Kd.R (Kd.int .i64) 3 w' w.heap.size (fun _ => True) v0_ r ∧ Below w.heap.size w w' := by
 have hu80 := Try.underlying80
 have HR0 := Aside0.mk hr0
 have HC0 := Aside0.mk hc0
 clear hr0 hc0
 have HB := Aside0.mk (Below.refl w.heap.size w)
 have H : (footwayref20_Where.l0 k l0 a1 a2 (([] : List Int)) 0) = some r := h
 clear h
 obtain ⟨y163, hy163⟩ : ∃ y_ : List Int, y_ = (([] : List Int)) := ⟨_, rfl⟩
 replace H : (footwayref20_Where.l0 k l0 a1 a2 y163 0) = some r := by first | (rw [hy163]; with_reducible exact H) | (have H2_ := (Option.bind_some _ _).symm.trans H; rw [hy163]; with_reducible exact H2_) | (have H2_ := (Option.bind_some _ _).symm.trans H; with_reducible exact H2_) | with_reducible exact H | (rw [hy163]; exact H) | exact H
 have Ny163 := Aside0.mk hy163
 clear hy163
 have H' := Aside0.mk H
 clear H
 go_enter Try.func19, Try.ntmps19
 go_wp2_with (first | ((with_reducible refine gate_dst (N := 12) rfl ?_); refine Kd.R_lit (Kd.int .i64) _ 3 ?hg (N := 12) ?hd (xs := ([] : List Int)) (inner := []) (ok := fun _ => True) (okp := fun _ => True) ?hr ?hp (fun _ hk => hk) trivial (Below.refl _ _) (Nat.le_refl _) (by simp) ?_; (case hd => rfl); (case hg => rfl); (case hr => first | (go_simp; done) | (go_simp; rfl)); (case hp => exact (Reps.none _ _)); intro v164 w4 ho5 hb hg_ hnew_; clear hg_ hnew_; (first | rw [← Ny163.out] at ho5 | (simp only [Int.reduceToNat] at ho5; rw [← Ny163.out] at ho5)); have n0_ := Aside0.mk (Kd.R_lower ho5 (below_size (by repeat (first | (with_reducible first | exact HB.out | apply below_alloc | apply pw_below_drewN | apply below_drew1) | exact HB.out)))); have n1_ := Aside0.mk (below_step (by repeat (first | (with_reducible first | exact HB.out | apply below_alloc | apply pw_below_drewN | apply below_drew1) | exact HB.out)) hb); clear HB; have HO165 := n0_; have HB := n1_; clear n0_ n1_; clear hb ho5))
 go_loopg [7, 8] k (fun kq v7 v8 w' => ∃ (x7_1 : List Int) (x8_1 : Int), v8 = .int .i64 x8_1 ∧ Aside0 (footwayref20_Where.l0 kq l0 a1 a2 x7_1 x8_1 = some r) ∧ Aside0 (kq ≤ k) ∧ Aside0 (Kd.R (Kd.int .i64) 3 w' w.heap.size (fun _ => True) v7 x7_1) ∧ Aside0 (Below w.heap.size w w'))
 case atStart => exact ⟨(y163), (0), (by first | rfl | (simp; done) | (simp [*]; done)), H', ⟨Nat.le_refl _⟩, ⟨by (with_reducible repeat (first | apply Kd.R_alloc | apply Kd.R_drewN | apply Kd.R_drew)); exact HO165.out⟩, ⟨by repeat (first | (with_reducible first | exact HB.out | apply below_alloc | apply pw_below_drewN | apply below_drew1) | exact HB.out)⟩⟩
 case round =>
  clear H'
  try clear c1
  try clear p2
  obtain ⟨x7_1, x8_1, rfl, HA, HK1, HO_7, HB⟩ := hrel
  cases gk with
  | zero => exact absurd HA.out (by simp [footwayref20_Where.l0])
  | succ k1 =>
   have H := HA.out
   clear HA
   simp only [footwayref20_Where.l0] at H
   by_cases c6 : x8_1 < a2
   ·rw [if_pos c6] at H
    have c6b0 : decide (x8_1 < a2) = true := decide_eq_true c6
    clear c6
    have H' := Aside0.mk H
    clear H
    go_wp2
    go_loopg [9, 20] k1 (fun kq v9 v20 w' => ∃ (x9_2 : Int) (x20_2 : Int), v9 = .int .i64 x9_2 ∧ v20 = .int .i64 x20_2 ∧ Aside0 (footwayref20_Where.l1 kq l0 a1 a2 x7_1 x8_1 x9_2 l0 (l0.length : Int) x20_2 = some r) ∧ Aside0 (kq ≤ k1) ∧ Aside0 (Kd.R (Kd.int .i64) 3 w' w.heap.size (fun _ => True) u7 x7_1) ∧ Aside0 (Below w.heap.size w w'))
    case atStart => exact ⟨(0), (0), (by first | rfl | (simp; done) | (simp [*]; done)), (by first | rfl | (simp; done) | (simp [*]; done)), H', ⟨Nat.le_refl _⟩, ⟨by (with_reducible repeat (first | apply Kd.R_alloc | apply Kd.R_drewN | apply Kd.R_drew)); exact HO_7.out⟩, ⟨by repeat (first | (with_reducible first | exact HB.out | apply below_alloc | apply pw_below_drewN | apply below_drew1) | exact HB.out)⟩⟩
    case round =>
     clear H'
     try clear c1
     try clear p2
     try clear c6
     try clear c6b0
     try clear p2
     obtain ⟨x9_2, x20_2, rfl, rfl, HA, HK2, HO_7, HB⟩ := hrel
     cases gk with
     | zero => exact absurd HA.out (by simp [footwayref20_Where.l1])
     | succ k2 =>
      have H := HA.out
      clear HA
      simp only [footwayref20_Where.l1] at H
      by_cases c7 : x20_2 < (l0.length : Int)
      ·rw [if_pos c7] at H
       have c7b0 : decide (x20_2 < (l0.length : Int)) = true := decide_eq_true c7
       clear c7
       by_cases c8 : 0 ≤ x20_2
       ·rw [if_pos c8] at H
        have c8b0 : decide (0 ≤ x20_2) = true := decide_eq_true c8
        clear c8
        by_cases c9 : x20_2 < (l0.length : Int)
        ·rw [if_pos c9] at H
         have c9b0 : decide (x20_2 < (l0.length : Int)) = true := decide_eq_true c9
         clear c9
         by_cases c10 : ((rd_T80 l0 x20_2).f1) = x8_1
         ·rw [if_pos c10] at H
          have c10b0 : (((rd_T80 l0 x20_2).f1) == x8_1) = true := beq_iff_eq.mpr c10
          have c10b1 : (((rd_T80 l0 x20_2).f1) != x8_1) = false := bne_eq_false_iff_eq.mpr c10
          clear c10
          by_cases c11 : ((rd_T80 l0 x20_2).f4).toList = a1.toList
          ·rw [if_pos c11] at H
           have c11b0 : (((rd_T80 l0 x20_2).f4).toList == a1.toList) = true := beq_iff_eq.mpr c11
           have c11b1 : (((rd_T80 l0 x20_2).f4).toList != a1.toList) = false := bne_eq_false_iff_eq.mpr c11
           clear c11
           have H' := Aside0.mk H
           clear H
           have p166 : 0 ≤ (x20_2 : Int) := of_decide_eq_true (by first | (with_reducible assumption) | assumption)
           have q166 : x20_2 < (l0.length : Int) := of_decide_eq_true (by first | (with_reducible assumption) | assumption)
           obtain ⟨ad166, e166, hx166_0, hx166_1, hx166_2, hx166_3, hx166_4⟩ := at_T80 HR0.out x20_2 p166 q166
           cases e166
           replace hx166_0 := (HB.out.cell (World.block_lt_of_cell? w _ hx166_0)).trans hx166_0
           replace hx166_1 := (HB.out.cell (World.block_lt_of_cell? w _ hx166_1)).trans hx166_1
           replace hx166_2 := (HB.out.cell (World.block_lt_of_cell? w _ hx166_2)).trans hx166_2
           replace hx166_3 := (HB.out.cell (World.block_lt_of_cell? w _ hx166_3)).trans hx166_3
           replace hx166_4 := (HB.out.cell (World.block_lt_of_cell? w _ hx166_4)).trans hx166_4
           replace p166 := eq_true p166
           replace q166 := eq_true q166
           go_wp2_with (first | ((with_reducible refine gate_dst (N := 11) rfl ?_); refine box_event ?hg (N := 11) ?hd (cs := #[.int .i64 0, .int .i64 0, .int .i64 0, .int .i64 0, .string (⟨#[]⟩ : ByteArray)]) (t := 80) ?hr ?_; (case hd => rfl); (case hg => rfl); (case hr => first | (go_simp; done) | (go_simp; rfl)); intro gb167 hg w12 hbox hb; have n0_ := Aside0.mk (Kd.R_below (by (with_reducible repeat (first | apply Kd.R_alloc | apply Kd.R_drewN | apply Kd.R_drew)); exact HO_7.out) hb); have n1_ := Aside0.mk (below_step (by repeat (first | (with_reducible first | exact HB.out | apply below_alloc | apply pw_below_drewN | apply below_drew1) | exact HB.out)) hb); have n2_ := Aside0.mk (hbox); have n3_ := Aside0.mk ((by rw [hg]; exact (below_size (by repeat (first | (with_reducible first | exact HB.out | apply below_alloc | apply pw_below_drewN | apply below_drew1) | exact HB.out))) : w.heap.size ≤ gb167)); have n4_ := Aside0.mk ((by rw [hg]; exact (below_size (by repeat (first | (with_reducible first | exact HB.out | apply below_alloc | apply pw_below_drewN | apply below_drew1) | exact HB.out))) : w.heap.size ≤ gb167)); clear HO_7; clear HB; have HO_7 := n0_; have HB := n1_; have BK167 := n2_; have GW167 := n3_; have GE167 := n4_; clear n0_ n1_ n2_ n3_ n4_; clear hb hbox hg; have hcz13_0 : w12.cell? ⟨gb167, 0, none⟩ = some (.int .i64 0) := (blk_cell BK167.out 0).trans rfl; have hcz13_1 : w12.cell? ⟨gb167, 1, none⟩ = some (.int .i64 0) := (blk_cell BK167.out 1).trans rfl; have hcz13_2 : w12.cell? ⟨gb167, 2, none⟩ = some (.int .i64 0) := (blk_cell BK167.out 2).trans rfl; have hcz13_3 : w12.cell? ⟨gb167, 3, none⟩ = some (.int .i64 0) := (blk_cell BK167.out 3).trans rfl; have hcz13_4 : w12.cell? ⟨gb167, 4, none⟩ = some (.string (⟨#[]⟩ : ByteArray)) := (blk_cell BK167.out 4).trans rfl; have hfz13_0 := blk_frozen BK167.out 0; have hfz13_1 := blk_frozen BK167.out 1; have hfz13_2 := blk_frozen BK167.out 2; have hfz13_3 := blk_frozen BK167.out 3; have hfz13_4 := blk_frozen BK167.out 4))
           go_roundg k2
           case measure => have := HK1.out; have := HK2.out; omega
           case rel => exact ⟨(wrap64 (x9_2 + 1)), (wrap64 (x20_2 + 1)), (by first | rfl | (simp; done) | (simp [*]; done)), (by first | rfl | (simp; done) | (simp [*]; done)), H', ⟨by have := HK1.out; have := HK2.out; omega⟩, ⟨by (with_reducible repeat (first | apply Kd.R_alloc | apply Kd.R_drewN | apply Kd.R_drew)); exact Kd.R_mono (Kd.R_far (p := ⟨gb167, 4, none⟩) (Kd.R_far (p := ⟨gb167, 3, none⟩) (Kd.R_far (p := ⟨gb167, 2, none⟩) (Kd.R_far (p := ⟨gb167, 1, none⟩) (Kd.R_far (p := ⟨gb167, 0, none⟩) (Kd.R_types HO_7.out BK167.out (by decide)) (fun _ hk => hk.2) (.int .i64 ((rd_T80 l0 x20_2).f0))) (fun _ hk => hk.2) (.int .i64 ((rd_T80 l0 x20_2).f1))) (fun _ hk => hk.2) (.int .i64 ((rd_T80 l0 x20_2).f2))) (fun _ hk => hk.2) (.int .i64 ((rd_T80 l0 x20_2).f3))) (fun _ hk => hk.2) (.string ((rd_T80 l0 x20_2).f4))) (fun _ hk => trivial)⟩, ⟨by repeat (first | (with_reducible first | exact HB.out | apply below_alloc | apply pw_below_drewN | apply below_drew1 | refine below_set ?_ GE167.out) | exact HB.out)⟩⟩
          ·rw [if_neg c11] at H
           have c11b0 : (((rd_T80 l0 x20_2).f4).toList == a1.toList) = false := beq_eq_false_iff_ne.mpr c11
           have c11b1 : (((rd_T80 l0 x20_2).f4).toList != a1.toList) = true := bne_iff_ne.mpr c11
           have H' := Aside0.mk H
           clear H
           have p166 : 0 ≤ (x20_2 : Int) := of_decide_eq_true (by first | (with_reducible assumption) | assumption)
           have q166 : x20_2 < (l0.length : Int) := of_decide_eq_true (by first | (with_reducible assumption) | assumption)
           obtain ⟨ad166, e166, hx166_0, hx166_1, hx166_2, hx166_3, hx166_4⟩ := at_T80 HR0.out x20_2 p166 q166
           cases e166
           replace hx166_0 := (HB.out.cell (World.block_lt_of_cell? w _ hx166_0)).trans hx166_0
           replace hx166_1 := (HB.out.cell (World.block_lt_of_cell? w _ hx166_1)).trans hx166_1
           replace hx166_2 := (HB.out.cell (World.block_lt_of_cell? w _ hx166_2)).trans hx166_2
           replace hx166_3 := (HB.out.cell (World.block_lt_of_cell? w _ hx166_3)).trans hx166_3
           replace hx166_4 := (HB.out.cell (World.block_lt_of_cell? w _ hx166_4)).trans hx166_4
           replace p166 := eq_true p166
           replace q166 := eq_true q166
           go_wp2_with (first | ((with_reducible refine gate_dst (N := 11) rfl ?_); refine box_event ?hg (N := 11) ?hd (cs := #[.int .i64 0, .int .i64 0, .int .i64 0, .int .i64 0, .string (⟨#[]⟩ : ByteArray)]) (t := 80) ?hr ?_; (case hd => rfl); (case hg => rfl); (case hr => first | (go_simp; done) | (go_simp; rfl)); intro gb167 hg w14 hbox hb; have n0_ := Aside0.mk (Kd.R_below (by (with_reducible repeat (first | apply Kd.R_alloc | apply Kd.R_drewN | apply Kd.R_drew)); exact HO_7.out) hb); have n1_ := Aside0.mk (below_step (by repeat (first | (with_reducible first | exact HB.out | apply below_alloc | apply pw_below_drewN | apply below_drew1) | exact HB.out)) hb); have n2_ := Aside0.mk (hbox); have n3_ := Aside0.mk ((by rw [hg]; exact (below_size (by repeat (first | (with_reducible first | exact HB.out | apply below_alloc | apply pw_below_drewN | apply below_drew1) | exact HB.out))) : w.heap.size ≤ gb167)); have n4_ := Aside0.mk ((by rw [hg]; exact (below_size (by repeat (first | (with_reducible first | exact HB.out | apply below_alloc | apply pw_below_drewN | apply below_drew1) | exact HB.out))) : w.heap.size ≤ gb167)); clear HO_7; clear HB; have HO_7 := n0_; have HB := n1_; have BK167 := n2_; have GW167 := n3_; have GE167 := n4_; clear n0_ n1_ n2_ n3_ n4_; clear hb hbox hg; have hcz15_0 : w14.cell? ⟨gb167, 0, none⟩ = some (.int .i64 0) := (blk_cell BK167.out 0).trans rfl; have hcz15_1 : w14.cell? ⟨gb167, 1, none⟩ = some (.int .i64 0) := (blk_cell BK167.out 1).trans rfl; have hcz15_2 : w14.cell? ⟨gb167, 2, none⟩ = some (.int .i64 0) := (blk_cell BK167.out 2).trans rfl; have hcz15_3 : w14.cell? ⟨gb167, 3, none⟩ = some (.int .i64 0) := (blk_cell BK167.out 3).trans rfl; have hcz15_4 : w14.cell? ⟨gb167, 4, none⟩ = some (.string (⟨#[]⟩ : ByteArray)) := (blk_cell BK167.out 4).trans rfl; have hfz15_0 := blk_frozen BK167.out 0; have hfz15_1 := blk_frozen BK167.out 1; have hfz15_2 := blk_frozen BK167.out 2; have hfz15_3 := blk_frozen BK167.out 3; have hfz15_4 := blk_frozen BK167.out 4))
           go_roundg k2
           case measure => have := HK1.out; have := HK2.out; omega
           case rel => exact ⟨(x9_2), (wrap64 (x20_2 + 1)), (by first | rfl | (simp; done) | (simp [*]; done)), (by first | rfl | (simp; done) | (simp [*]; done)), H', ⟨by have := HK1.out; have := HK2.out; omega⟩, ⟨by (with_reducible repeat (first | apply Kd.R_alloc | apply Kd.R_drewN | apply Kd.R_drew)); exact Kd.R_mono (Kd.R_far (p := ⟨gb167, 4, none⟩) (Kd.R_far (p := ⟨gb167, 3, none⟩) (Kd.R_far (p := ⟨gb167, 2, none⟩) (Kd.R_far (p := ⟨gb167, 1, none⟩) (Kd.R_far (p := ⟨gb167, 0, none⟩) (Kd.R_types HO_7.out BK167.out (by decide)) (fun _ hk => hk.2) (.int .i64 ((rd_T80 l0 x20_2).f0))) (fun _ hk => hk.2) (.int .i64 ((rd_T80 l0 x20_2).f1))) (fun _ hk => hk.2) (.int .i64 ((rd_T80 l0 x20_2).f2))) (fun _ hk => hk.2) (.int .i64 ((rd_T80 l0 x20_2).f3))) (fun _ hk => hk.2) (.string ((rd_T80 l0 x20_2).f4))) (fun _ hk => trivial)⟩, ⟨by repeat (first | (with_reducible first | exact HB.out | apply below_alloc | apply pw_below_drewN | apply below_drew1 | refine below_set ?_ GE167.out) | exact HB.out)⟩⟩
         ·rw [if_neg c10] at H
          have c10b0 : (((rd_T80 l0 x20_2).f1) == x8_1) = false := beq_eq_false_iff_ne.mpr c10
          have c10b1 : (((rd_T80 l0 x20_2).f1) != x8_1) = true := bne_iff_ne.mpr c10
          have H' := Aside0.mk H
          clear H
          have p166 : 0 ≤ (x20_2 : Int) := of_decide_eq_true (by first | (with_reducible assumption) | assumption)
          have q166 : x20_2 < (l0.length : Int) := of_decide_eq_true (by first | (with_reducible assumption) | assumption)
          obtain ⟨ad166, e166, hx166_0, hx166_1, hx166_2, hx166_3, hx166_4⟩ := at_T80 HR0.out x20_2 p166 q166
          cases e166
          replace hx166_0 := (HB.out.cell (World.block_lt_of_cell? w _ hx166_0)).trans hx166_0
          replace hx166_1 := (HB.out.cell (World.block_lt_of_cell? w _ hx166_1)).trans hx166_1
          replace hx166_2 := (HB.out.cell (World.block_lt_of_cell? w _ hx166_2)).trans hx166_2
          replace hx166_3 := (HB.out.cell (World.block_lt_of_cell? w _ hx166_3)).trans hx166_3
          replace hx166_4 := (HB.out.cell (World.block_lt_of_cell? w _ hx166_4)).trans hx166_4
          replace p166 := eq_true p166
          replace q166 := eq_true q166
          go_wp2_with (first | ((with_reducible refine gate_dst (N := 11) rfl ?_); refine box_event ?hg (N := 11) ?hd (cs := #[.int .i64 0, .int .i64 0, .int .i64 0, .int .i64 0, .string (⟨#[]⟩ : ByteArray)]) (t := 80) ?hr ?_; (case hd => rfl); (case hg => rfl); (case hr => first | (go_simp; done) | (go_simp; rfl)); intro gb167 hg w16 hbox hb; have n0_ := Aside0.mk (Kd.R_below (by (with_reducible repeat (first | apply Kd.R_alloc | apply Kd.R_drewN | apply Kd.R_drew)); exact HO_7.out) hb); have n1_ := Aside0.mk (below_step (by repeat (first | (with_reducible first | exact HB.out | apply below_alloc | apply pw_below_drewN | apply below_drew1) | exact HB.out)) hb); have n2_ := Aside0.mk (hbox); have n3_ := Aside0.mk ((by rw [hg]; exact (below_size (by repeat (first | (with_reducible first | exact HB.out | apply below_alloc | apply pw_below_drewN | apply below_drew1) | exact HB.out))) : w.heap.size ≤ gb167)); have n4_ := Aside0.mk ((by rw [hg]; exact (below_size (by repeat (first | (with_reducible first | exact HB.out | apply below_alloc | apply pw_below_drewN | apply below_drew1) | exact HB.out))) : w.heap.size ≤ gb167)); clear HO_7; clear HB; have HO_7 := n0_; have HB := n1_; have BK167 := n2_; have GW167 := n3_; have GE167 := n4_; clear n0_ n1_ n2_ n3_ n4_; clear hb hbox hg; have hcz17_0 : w16.cell? ⟨gb167, 0, none⟩ = some (.int .i64 0) := (blk_cell BK167.out 0).trans rfl; have hcz17_1 : w16.cell? ⟨gb167, 1, none⟩ = some (.int .i64 0) := (blk_cell BK167.out 1).trans rfl; have hcz17_2 : w16.cell? ⟨gb167, 2, none⟩ = some (.int .i64 0) := (blk_cell BK167.out 2).trans rfl; have hcz17_3 : w16.cell? ⟨gb167, 3, none⟩ = some (.int .i64 0) := (blk_cell BK167.out 3).trans rfl; have hcz17_4 : w16.cell? ⟨gb167, 4, none⟩ = some (.string (⟨#[]⟩ : ByteArray)) := (blk_cell BK167.out 4).trans rfl; have hfz17_0 := blk_frozen BK167.out 0; have hfz17_1 := blk_frozen BK167.out 1; have hfz17_2 := blk_frozen BK167.out 2; have hfz17_3 := blk_frozen BK167.out 3; have hfz17_4 := blk_frozen BK167.out 4))
          go_roundg k2
          case measure => have := HK1.out; have := HK2.out; omega
          case rel => exact ⟨(x9_2), (wrap64 (x20_2 + 1)), (by first | rfl | (simp; done) | (simp [*]; done)), (by first | rfl | (simp; done) | (simp [*]; done)), H', ⟨by have := HK1.out; have := HK2.out; omega⟩, ⟨by (with_reducible repeat (first | apply Kd.R_alloc | apply Kd.R_drewN | apply Kd.R_drew)); exact Kd.R_mono (Kd.R_far (p := ⟨gb167, 4, none⟩) (Kd.R_far (p := ⟨gb167, 3, none⟩) (Kd.R_far (p := ⟨gb167, 2, none⟩) (Kd.R_far (p := ⟨gb167, 1, none⟩) (Kd.R_far (p := ⟨gb167, 0, none⟩) (Kd.R_types HO_7.out BK167.out (by decide)) (fun _ hk => hk.2) (.int .i64 ((rd_T80 l0 x20_2).f0))) (fun _ hk => hk.2) (.int .i64 ((rd_T80 l0 x20_2).f1))) (fun _ hk => hk.2) (.int .i64 ((rd_T80 l0 x20_2).f2))) (fun _ hk => hk.2) (.int .i64 ((rd_T80 l0 x20_2).f3))) (fun _ hk => hk.2) (.string ((rd_T80 l0 x20_2).f4))) (fun _ hk => trivial)⟩, ⟨by repeat (first | (with_reducible first | exact HB.out | apply below_alloc | apply pw_below_drewN | apply below_drew1 | refine below_set ?_ GE167.out) | exact HB.out)⟩⟩
        ·rw [if_neg c9] at H
         exact absurd H (by simp)
       ·rw [if_neg c8] at H
        exact absurd H (by simp)
      ·rw [if_neg c7] at H
       have c7b0 : decide (x20_2 < (l0.length : Int)) = false := decide_eq_false c7
       clear c7
       by_cases c18 : x7_1.length < 17592186044416
       ·rw [if_pos c18] at H
        have LMc18 := Aside0.mk c18
        clear c18
        obtain ⟨y168, hy168⟩ : ∃ y_ : List Int, y_ = (x7_1 ++ [x9_2]) := ⟨_, rfl⟩
        replace H : (footwayref20_Where.l0 k2 l0 a1 a2 y168 (wrap64 (x8_1 + 1))) = some r := by first | (rw [hy168]; with_reducible exact H) | (have H2_ := (Option.bind_some _ _).symm.trans H; rw [hy168]; with_reducible exact H2_) | (have H2_ := (Option.bind_some _ _).symm.trans H; with_reducible exact H2_) | with_reducible exact H | (rw [hy168]; exact H) | exact H
        have Ny168 := Aside0.mk hy168
        clear hy168
        have H' := Aside0.mk H
        clear H
        go_wp2_with (first | ((with_reducible refine gate_builtin (b := .append) (xs := #[.tmp 37, .tmp 39]) rfl ?_); at_builtin; refine Kd.R_append (Kd.int .i64) (w0 := w) w.heap.size rfl (.tmp 37) (.tmp 39) 31 3 (.int .i64 0) 8 rfl Try.underlying31 info3 rfl (by decide) (by omega) u7 x7_1 x9_2 [.int .i64 x9_2] (fun _ => True) (fun _ => False) rfl rfl ?aP (fun _ hk => hk.elim) ?aF ?aO ?aB ?aS ?aL ?_; (case aP => exact rfl); (case aB => exact (by repeat (first | (with_reducible first | exact HB.out | apply below_alloc | apply pw_below_drewN | apply below_drew1) | exact HB.out))); (case aF => exact (fun _ _ => trivial)); (case aO => exact (by (with_reducible repeat (first | apply Kd.R_alloc | apply Kd.R_drewN | apply Kd.R_drew)); exact HO_7.out)); (case aS => exact (below_size (by repeat (first | (with_reducible first | exact HB.out | apply below_alloc | apply pw_below_drewN | apply below_drew1) | exact HB.out)))); (case aL => have := LMc18.out; omega); intro v169 w19 ho hb hg hat; rw [← Ny168.out] at ho; have n0_ := Aside0.mk (hb); have n1_ := Aside0.mk (ho); clear HB; clear HO_7; have HB := n0_; have HO170 := n1_; clear n0_ n1_; clear ho hb hg hat))
        go_roundg k2
        case measure => have := HK1.out; have := HK2.out; omega
        case rel => exact ⟨(y168), (wrap64 (x8_1 + 1)), (by first | rfl | (simp; done) | (simp [*]; done)), H', ⟨by have := HK1.out; have := HK2.out; omega⟩, ⟨by (with_reducible repeat (first | apply Kd.R_alloc | apply Kd.R_drewN | apply Kd.R_drew)); exact HO170.out⟩, ⟨by repeat (first | (with_reducible first | exact HB.out | apply below_alloc | apply pw_below_drewN | apply below_drew1) | exact HB.out)⟩⟩
       ·rw [if_neg c18] at H
        exact absurd H (by simp)
   ·rw [if_neg c6] at H
    have c6b0 : decide (x8_1 < a2) = false := decide_eq_false c6
    clear c6
    obtain rfl := Option.some.inj H
    go_wp2
    go_ret
    exact ⟨_, by first | rfl | (simp [errW_none, errW_some] <;> rfl) | (simp [*, errW_none, errW_some] <;> rfl), by (with_reducible repeat (first | apply Kd.R_alloc | apply Kd.R_drewN | apply Kd.R_drew)); exact HO_7.out, by repeat (first | (with_reducible first | exact HB.out | apply below_alloc | apply pw_below_drewN | apply below_drew1) | exact HB.out)⟩
end
end Go.Proofs.Ytjblfgagafmhcaa.K
namespace Go.Proofs.Ytjblfgagafmhcaa.K
open Go.RowKit Go.Proofs.YtjblfgagafmhcaaW.PrintWords Go.Proofs.YtjblfgagafmhcaaW.PrintLast Go.Proofs.YtjblfgagafmhcaaW.PrintMore
attribute [local go_sem] max2_int min2_int max_two min_two max_three min_three max_four min_four   -- for this text's walks alone
set_option linter.unusedVariables false
set_option linter.unusedSimpArgs false
noncomputable section
def footwayref01_Class.f (a0 : Int) : Option (Int) := if (wrap64 (Int.tdiv a0 16)) = 103282638848 then (some 2) else (if (Int.tmod (wrap64 (Int.tdiv a0 1099511627776)) 2) = 1 then (some 1) else (some 0))
set_option maxHeartbeats 8000000 in
set_option maxRecDepth 100000 in
theorem footwayref01_Class.calls (a0 : Int) (r : Int) (w : World) (h : footwayref01_Class.f a0 = some r) :
  Calls Try.prog 91 #[.int .i64 a0] w fun e w' => e = .returned (.int .i64 r) ∧ Drawn0 w w' := by
 have H : (if (wrap64 (Int.tdiv a0 16)) = 103282638848 then (some 2) else (if (Int.tmod (wrap64 (Int.tdiv a0 1099511627776)) 2) = 1 then (some 1) else (some 0))) = some r := h
 clear h
 by_cases c2 : (wrap64 (Int.tdiv a0 16)) = 103282638848
 ·rw [if_pos c2] at H
  have c2b0 : ((wrap64 (Int.tdiv a0 16)) == 103282638848) = true := beq_iff_eq.mpr c2
  have c2b1 : ((wrap64 (Int.tdiv a0 16)) != 103282638848) = false := bne_eq_false_iff_eq.mpr c2
  clear c2
  obtain rfl := Option.some.inj H
  go_enter Try.func91, Try.ntmps91
  go_wp2
  go_ret
  exact ⟨by first | rfl | (simp; done) | (simp [*]; done), by repeat (first | exact Drawn0.refl _ | apply Drawn0.step)⟩
 ·rw [if_neg c2] at H
  have c2b0 : ((wrap64 (Int.tdiv a0 16)) == 103282638848) = false := beq_eq_false_iff_ne.mpr c2
  have c2b1 : ((wrap64 (Int.tdiv a0 16)) != 103282638848) = true := bne_iff_ne.mpr c2
  by_cases c3 : (Int.tmod (wrap64 (Int.tdiv a0 1099511627776)) 2) = 1
  ·rw [if_pos c3] at H
   have c3b0 : ((Int.tmod (wrap64 (Int.tdiv a0 1099511627776)) 2) == 1) = true := beq_iff_eq.mpr c3
   have c3b1 : ((Int.tmod (wrap64 (Int.tdiv a0 1099511627776)) 2) != 1) = false := bne_eq_false_iff_eq.mpr c3
   clear c3
   obtain rfl := Option.some.inj H
   go_enter Try.func91, Try.ntmps91
   go_wp2
   go_ret
   exact ⟨by first | rfl | (simp; done) | (simp [*]; done), by repeat (first | exact Drawn0.refl _ | apply Drawn0.step)⟩
  ·rw [if_neg c3] at H
   have c3b0 : ((Int.tmod (wrap64 (Int.tdiv a0 1099511627776)) 2) == 1) = false := beq_eq_false_iff_ne.mpr c3
   have c3b1 : ((Int.tmod (wrap64 (Int.tdiv a0 1099511627776)) 2) != 1) = true := bne_iff_ne.mpr c3
   obtain rfl := Option.some.inj H
   go_enter Try.func91, Try.ntmps91
   go_wp2
   go_ret
   exact ⟨by first | rfl | (simp; done) | (simp [*]; done), by repeat (first | exact Drawn0.refl _ | apply Drawn0.step)⟩
end
end Go.Proofs.Ytjblfgagafmhcaa.K
namespace Go.Proofs.Ytjblfgagafmhcaa.K
open Go.RowKit Go.Proofs.YtjblfgagafmhcaaW.PrintWords Go.Proofs.YtjblfgagafmhcaaW.PrintLast Go.Proofs.YtjblfgagafmhcaaW.PrintMore
attribute [local go_sem] max2_int min2_int max_two min_two max_three min_three max_four min_four   -- for this text's walks alone
set_option linter.unusedVariables false
set_option linter.unusedSimpArgs false
noncomputable section
open Classical in
noncomputable def footwayref02_Parse.f (a0 : ByteArray) : Option (Int × Int × Int × ByteArray × Int) :=
 if a0.size ≤ 9223372036854775807 then some ((Fw.parseF a0).1.dst, (Fw.parseF a0).1.src, (Fw.parseF a0).1.type, (Fw.parseF a0).1.data, (Fw.parseF a0).2) else none
set_option maxHeartbeats 1000000 in
set_option maxRecDepth 100000 in
theorem footwayref02_Parse.calls (a0 : ByteArray) (r1 : Int) (r2 : Int) (r3 : Int) (r4 : ByteArray) (r5 : Int) (w : World) (h : footwayref02_Parse.f a0 = some (r1, r2, r3, r4, r5)) :
  Calls Try.prog 92 #[.string a0] w fun e w' => e = .returned (.tuple #[.agg #[.int .i64 r1, .int .i64 r2, .int .i64 r3, .string r4], .int .i64 r5]) ∧ Below w.heap.size w w' := by
 unfold footwayref02_Parse.f at h
 split at h
 ·rename_i ok
  have h := Option.some.inj h
  simp only [Prod.mk.injEq] at h
  obtain ⟨rfl, rfl, rfl, rfl, rfl⟩ := h
  exact Fw.refParse_any a0 w ok
 ·cases h
end
end Go.Proofs.Ytjblfgagafmhcaa.K
