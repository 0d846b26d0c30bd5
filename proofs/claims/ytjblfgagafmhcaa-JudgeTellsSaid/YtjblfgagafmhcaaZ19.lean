/- Part 19 of the proof of one statement: what is written for it by hand and by a program of this seat's, over the given program's form. Conditions: none. -/
import Derived.Test.YtjblfgagafmhcaaZ7
set_option linter.unusedVariables false
set_option linter.unusedSimpArgs false
namespace Go.Proofs.Ytjblfgagafmhcaa.K
open Go.RowKit Go.Proofs.YtjblfgagafmhcaaW.PrintWords Go.Proofs.YtjblfgagafmhcaaW.PrintLast Go.Proofs.YtjblfgagafmhcaaW.PrintMore
attribute [local go_sem] max2_int min2_int max_two min_two max_three min_three max_four min_four   -- for this text's walks alone
set_option linter.unusedVariables false
set_option linter.unusedSimpArgs false
noncomputable section
mutual
def footwayref15_twice.l0 : Nat → Int → Int → Int → List (S64) → List (S91) → Option (Bool)
 | 0, _, _, _, _, _ => none
 | k + 1, x9, x10, x172000, x172001, x172002 => if x10 < x9 then (footwayref15_twice.l1 k x10 0 x9 x10 x172000 x172001 x172002) else (footwayref15_twice.l2 k (x172002.length : Int) 0 x172000 x172001 x172002)
def footwayref15_twice.l1 : Nat → Int → Int → Int → Int → Int → List (S64) → List (S91) → Option (Bool)
 | 0, _, _, _, _, _, _, _ => none
 | k + 1, x3, x4, x9, x10, x172000, x172001, x172002 => if x4 < x3 then (if 0 ≤ x3 then (if x3 < (x172001.length : Int) then (if 0 ≤ x4 then (if x4 < (x172001.length : Int) then (if ((rd_T64 x172001 x3).f0) = ((rd_T64 x172001 x4).f0) then (some true) else (footwayref15_twice.l1 k x3 (wrap64 (x4 + 1)) x9 x10 x172000 x172001 x172002)) else (none)) else (none)) else (none)) else (none)) else (footwayref15_twice.l0 k x9 (wrap64 (x10 + 1)) x172000 x172001 x172002)
def footwayref15_twice.l2 : Nat → Int → Int → Int → List (S64) → List (S91) → Option (Bool)
 | 0, _, _, _, _, _ => none
 | k + 1, x34, x35, x172000, x172001, x172002 => if x35 < x34 then (footwayref15_twice.l3 k x35 0 x34 x35 x172000 x172001 x172002) else (some false)
def footwayref15_twice.l3 : Nat → Int → Int → Int → Int → Int → List (S64) → List (S91) → Option (Bool)
 | 0, _, _, _, _, _, _, _ => none
 | k + 1, x5, x6, x34, x35, x172000, x172001, x172002 => if x6 < x5 then (if 0 ≤ x5 then (if x5 < (x172002.length : Int) then (if 0 ≤ x6 then (if x6 < (x172002.length : Int) then (if ((rd_T91 x172002 x5).f0) = ((rd_T91 x172002 x6).f0) then (some true) else (footwayref15_twice.l3 k x5 (wrap64 (x6 + 1)) x34 x35 x172000 x172001 x172002)) else (none)) else (none)) else (none)) else (none)) else (footwayref15_twice.l2 k x34 (wrap64 (x35 + 1)) x172000 x172001 x172002)
end
def footwayref15_twice.f (k : Nat) (a0_0 : Int) (l0_1 : List (S64)) (l0_2 : List (S91)) : Option (Bool) := footwayref15_twice.l0 k (l0_1.length : Int) 0 a0_0 l0_1 l0_2
theorem footwayref15_twice.mono_l : ∀ k, (∀ y0 y1 y2 y3 y4, LeO (footwayref15_twice.l0 k y0 y1 y2 y3 y4) (footwayref15_twice.l0 (k + 1) y0 y1 y2 y3 y4)) ∧ (∀ y0 y1 y2 y3 y4 y5 y6, LeO (footwayref15_twice.l1 k y0 y1 y2 y3 y4 y5 y6) (footwayref15_twice.l1 (k + 1) y0 y1 y2 y3 y4 y5 y6)) ∧ (∀ y0 y1 y2 y3 y4, LeO (footwayref15_twice.l2 k y0 y1 y2 y3 y4) (footwayref15_twice.l2 (k + 1) y0 y1 y2 y3 y4)) ∧ (∀ y0 y1 y2 y3 y4 y5 y6, LeO (footwayref15_twice.l3 k y0 y1 y2 y3 y4 y5 y6) (footwayref15_twice.l3 (k + 1) y0 y1 y2 y3 y4 y5 y6))
 | 0 => ⟨fun _ _ _ _ _ r h => by simp [footwayref15_twice.l0] at h, fun _ _ _ _ _ _ _ r h => by simp [footwayref15_twice.l1] at h, fun _ _ _ _ _ r h => by simp [footwayref15_twice.l2] at h, fun _ _ _ _ _ _ _ r h => by simp [footwayref15_twice.l3] at h⟩
 | k + 1 => by
  obtain ⟨ih0, ih1, ih2, ih3⟩ := footwayref15_twice.mono_l k
  refine ⟨?_, ?_, ?_, ?_⟩
  ·intro y0 y1 y2 y3 y4
   unfold footwayref15_twice.l0
   repeat' first
   | (with_reducible exact ih0 _ _ _ _ _)
   | (with_reducible exact ih1 _ _ _ _ _ _ _)
   | (with_reducible exact ih2 _ _ _ _ _)
   | (with_reducible exact ih3 _ _ _ _ _ _ _)
   | (with_reducible exact LeO.refl _)
   | (with_reducible exact LeO.none _)
   | (with_reducible refine LeO.ite ?_ ?_)
   | (with_reducible refine LeO.bind ?_ (fun _ => ?_))
   | exact ih0 _ _ _ _ _
   | exact ih1 _ _ _ _ _ _ _
   | exact ih2 _ _ _ _ _
   | exact ih3 _ _ _ _ _ _ _
   | exact LeO.none _
   | refine LeO.ite ?_ ?_
   | refine LeO.bind ?_ (fun _ => ?_)
  ·intro y0 y1 y2 y3 y4 y5 y6
   unfold footwayref15_twice.l1
   repeat' first
   | (with_reducible exact ih0 _ _ _ _ _)
   | (with_reducible exact ih1 _ _ _ _ _ _ _)
   | (with_reducible exact ih2 _ _ _ _ _)
   | (with_reducible exact ih3 _ _ _ _ _ _ _)
   | (with_reducible exact LeO.refl _)
   | (with_reducible exact LeO.none _)
   | (with_reducible refine LeO.ite ?_ ?_)
   | (with_reducible refine LeO.bind ?_ (fun _ => ?_))
   | exact ih0 _ _ _ _ _
   | exact ih1 _ _ _ _ _ _ _
   | exact ih2 _ _ _ _ _
   | exact ih3 _ _ _ _ _ _ _
   | exact LeO.none _
   | refine LeO.ite ?_ ?_
   | refine LeO.bind ?_ (fun _ => ?_)
  ·intro y0 y1 y2 y3 y4
   unfold footwayref15_twice.l2
   repeat' first
   | (with_reducible exact ih0 _ _ _ _ _)
   | (with_reducible exact ih1 _ _ _ _ _ _ _)
   | (with_reducible exact ih2 _ _ _ _ _)
   | (with_reducible exact ih3 _ _ _ _ _ _ _)
   | (with_reducible exact LeO.refl _)
   | (with_reducible exact LeO.none _)
   | (with_reducible refine LeO.ite ?_ ?_)
   | (with_reducible refine LeO.bind ?_ (fun _ => ?_))
   | exact ih0 _ _ _ _ _
   | exact ih1 _ _ _ _ _ _ _
   | exact ih2 _ _ _ _ _
   | exact ih3 _ _ _ _ _ _ _
   | exact LeO.none _
   | refine LeO.ite ?_ ?_
   | refine LeO.bind ?_ (fun _ => ?_)
  ·intro y0 y1 y2 y3 y4 y5 y6
   unfold footwayref15_twice.l3
   repeat' first
   | (with_reducible exact ih0 _ _ _ _ _)
   | (with_reducible exact ih1 _ _ _ _ _ _ _)
   | (with_reducible exact ih2 _ _ _ _ _)
   | (with_reducible exact ih3 _ _ _ _ _ _ _)
   | (with_reducible exact LeO.refl _)
   | (with_reducible exact LeO.none _)
   | (with_reducible refine LeO.ite ?_ ?_)
   | (with_reducible refine LeO.bind ?_ (fun _ => ?_))
   | exact ih0 _ _ _ _ _
   | exact ih1 _ _ _ _ _ _ _
   | exact ih2 _ _ _ _ _
   | exact ih3 _ _ _ _ _ _ _
   | exact LeO.none _
   | refine LeO.ite ?_ ?_
   | refine LeO.bind ?_ (fun _ => ?_)
theorem footwayref15_twice.mono : ∀ a0 a1 a2 k, LeO (footwayref15_twice.f k a0 a1 a2) (footwayref15_twice.f (k + 1) a0 a1 a2) := by
 intro a0 a1 a2 k
 obtain ⟨ih0, ih1, ih2, ih3⟩ := footwayref15_twice.mono_l k
 unfold footwayref15_twice.f
 repeat' first
   | (with_reducible exact ih0 _ _ _ _ _)
   | (with_reducible exact ih1 _ _ _ _ _ _ _)
   | (with_reducible exact ih2 _ _ _ _ _)
   | (with_reducible exact ih3 _ _ _ _ _ _ _)
   | (with_reducible exact LeO.refl _)
   | (with_reducible exact LeO.none _)
   | (with_reducible refine LeO.ite ?_ ?_)
   | (with_reducible refine LeO.bind ?_ (fun _ => ?_))
   | exact ih0 _ _ _ _ _
   | exact ih1 _ _ _ _ _ _ _
   | exact ih2 _ _ _ _ _
   | exact ih3 _ _ _ _ _ _ _
   | exact LeO.none _
   | refine LeO.ite ?_ ?_
   | refine LeO.bind ?_ (fun _ => ?_)
set_option maxHeartbeats 8000000 in
set_option maxRecDepth 100000 in
theorem footwayref15_twice.calls (k : Nat) (a0_0 : Int) (A0_1 : Option Addr) (c0_1 : Nat) (l0_1 : List (S64)) (A0_2 : Option Addr) (c0_2 : Nat) (l0_2 : List (S91)) (r : Bool) (w : World) (hr0_1 : Kd.C k64 w A0_1 l0_1.length l0_1) (hc0_1 : l0_1.length ≤ c0_1) (hr0_2 : Kd.C k91 w A0_2 l0_2.length l0_2) (hc0_2 : l0_2.length ≤ c0_2) (h : footwayref15_twice.f k a0_0 l0_1 l0_2 = some r) :
  Calls Try.prog 53 #[.agg #[.int .i64 a0_0, .slice A0_1 l0_1.length c0_1, .slice A0_2 l0_2.length c0_2]] w fun e w' => e = .returned (.bool r) ∧ Below w.heap.size w w' := by
 have hu25 := Try.underlying25
 have HR0_1 := Aside0.mk hr0_1
 have HC0_1 := Aside0.mk hc0_1
 clear hr0_1 hc0_1
 have HR0_2 := Aside0.mk hr0_2
 have HC0_2 := Aside0.mk hc0_2
 clear hr0_2 hc0_2
 have HB := Aside0.mk (Below.refl w.heap.size w)
 have H : (footwayref15_twice.l0 k (l0_1.length : Int) 0 a0_0 l0_1 l0_2) = some r := h
 clear h
 have H' := Aside0.mk H
 clear H
 go_enter Try.func53, Try.ntmps53
 go_wp2_with (first | ((with_reducible refine gate_dst (N := 1) rfl ?_); refine box_event ?hg (N := 1) ?hd (cs := #[.int .i64 a0_0, .slice A0_1 l0_1.length c0_1, .slice A0_2 l0_2.length c0_2]) (t := 25) ?hr ?_; (case hd => rfl); (case hg => rfl); (case hr => first | (go_simp; done) | (go_simp; rfl)); intro gb171 hg w2 hbox hb; have n0_ := Aside0.mk (below_step (by repeat (first | (with_reducible first | exact HB.out | apply below_alloc | apply pw_below_drewN | apply below_drew1) | exact HB.out)) hb); have n1_ := Aside0.mk (hbox); have n2_ := Aside0.mk ((by rw [hg]; exact (below_size (by repeat (first | (with_reducible first | exact HB.out | apply below_alloc | apply pw_below_drewN | apply below_drew1) | exact HB.out))) : w.heap.size ≤ gb171)); have n3_ := Aside0.mk ((by rw [hg]; exact (below_size (by repeat (first | (with_reducible first | exact HB.out | apply below_alloc | apply pw_below_drewN | apply below_drew1) | exact HB.out))) : w.heap.size ≤ gb171)); clear HB; have HB := n0_; have BK171 := n1_; have GW171 := n2_; have GE171 := n3_; clear n0_ n1_ n2_ n3_; clear hb hbox hg; have hcz3_0 : w2.cell? ⟨gb171, 0, none⟩ = some (.int .i64 a0_0) := (blk_cell BK171.out 0).trans rfl; have hcz3_1 : w2.cell? ⟨gb171, 1, none⟩ = some (.slice A0_1 l0_1.length c0_1) := (blk_cell BK171.out 1).trans rfl; have hcz3_2 : w2.cell? ⟨gb171, 2, none⟩ = some (.slice A0_2 l0_2.length c0_2) := (blk_cell BK171.out 2).trans rfl; have hfz3_0 := blk_frozen BK171.out 0; have hfz3_1 := blk_frozen BK171.out 1; have hfz3_2 := blk_frozen BK171.out 2))
 repeat (go_quiet (first | ((with_reducible refine gate_dst (N := 1) rfl ?_); refine box_event ?hg (N := 1) ?hd (cs := #[.int .i64 a0_0, .slice A0_1 l0_1.length c0_1, .slice A0_2 l0_2.length c0_2]) (t := 25) ?hr ?_; (case hd => rfl); (case hg => rfl); (case hr => first | (go_simp; done) | (go_simp; rfl)); intro gb171 hg w2 hbox hb; have n0_ := Aside0.mk (below_step (by repeat (first | (with_reducible first | exact HB.out | apply below_alloc | apply pw_below_drewN | apply below_drew1) | exact HB.out)) hb); have n1_ := Aside0.mk (hbox); have n2_ := Aside0.mk ((by rw [hg]; exact (below_size (by repeat (first | (with_reducible first | exact HB.out | apply below_alloc | apply pw_below_drewN | apply below_drew1) | exact HB.out))) : w.heap.size ≤ gb171)); have n3_ := Aside0.mk ((by rw [hg]; exact (below_size (by repeat (first | (with_reducible first | exact HB.out | apply below_alloc | apply pw_below_drewN | apply below_drew1) | exact HB.out))) : w.heap.size ≤ gb171)); clear HB; have HB := n0_; have BK171 := n1_; have GW171 := n2_; have GE171 := n3_; clear n0_ n1_ n2_ n3_; clear hb hbox hg; have hcz3_0 : w2.cell? ⟨gb171, 0, none⟩ = some (.int .i64 a0_0) := (blk_cell BK171.out 0).trans rfl; have hcz3_1 : w2.cell? ⟨gb171, 1, none⟩ = some (.slice A0_1 l0_1.length c0_1) := (blk_cell BK171.out 1).trans rfl; have hcz3_2 : w2.cell? ⟨gb171, 2, none⟩ = some (.slice A0_2 l0_2.length c0_2) := (blk_cell BK171.out 2).trans rfl; have hfz3_0 := blk_frozen BK171.out 0; have hfz3_1 := blk_frozen BK171.out 1; have hfz3_2 := blk_frozen BK171.out 2)); try go_wp2_with (first | ((with_reducible refine gate_dst (N := 1) rfl ?_); refine box_event ?hg (N := 1) ?hd (cs := #[.int .i64 a0_0, .slice A0_1 l0_1.length c0_1, .slice A0_2 l0_2.length c0_2]) (t := 25) ?hr ?_; (case hd => rfl); (case hg => rfl); (case hr => first | (go_simp; done) | (go_simp; rfl)); intro gb171 hg w2 hbox hb; have n0_ := Aside0.mk (below_step (by repeat (first | (with_reducible first | exact HB.out | apply below_alloc | apply pw_below_drewN | apply below_drew1) | exact HB.out)) hb); have n1_ := Aside0.mk (hbox); have n2_ := Aside0.mk ((by rw [hg]; exact (below_size (by repeat (first | (with_reducible first | exact HB.out | apply below_alloc | apply pw_below_drewN | apply below_drew1) | exact HB.out))) : w.heap.size ≤ gb171)); have n3_ := Aside0.mk ((by rw [hg]; exact (below_size (by repeat (first | (with_reducible first | exact HB.out | apply below_alloc | apply pw_below_drewN | apply below_drew1) | exact HB.out))) : w.heap.size ≤ gb171)); clear HB; have HB := n0_; have BK171 := n1_; have GW171 := n2_; have GE171 := n3_; clear n0_ n1_ n2_ n3_; clear hb hbox hg; have hcz3_0 : w2.cell? ⟨gb171, 0, none⟩ = some (.int .i64 a0_0) := (blk_cell BK171.out 0).trans rfl; have hcz3_1 : w2.cell? ⟨gb171, 1, none⟩ = some (.slice A0_1 l0_1.length c0_1) := (blk_cell BK171.out 1).trans rfl; have hcz3_2 : w2.cell? ⟨gb171, 2, none⟩ = some (.slice A0_2 l0_2.length c0_2) := (blk_cell BK171.out 2).trans rfl; have hfz3_0 := blk_frozen BK171.out 0; have hfz3_1 := blk_frozen BK171.out 1; have hfz3_2 := blk_frozen BK171.out 2)))
 go_loopg [10] k (fun kq v10 w' => ∃ (x10_1 : Int), v10 = .int .i64 x10_1 ∧ Aside0 (footwayref15_twice.l0 kq (l0_1.length : Int) x10_1 a0_0 l0_1 l0_2 = some r) ∧ Aside0 (kq ≤ k) ∧ Aside0 (w'.heap[gb171]? = some (.cells #[.int .i64 a0_0, (.slice A0_1 l0_1.length c0_1), (.slice A0_2 l0_2.length c0_2)] 25 (0, 0))) ∧ Aside0 (Below w.heap.size w w'))
 case atStart => exact ⟨(0), (by first | rfl | (simp; done) | (simp [*]; done)), H', ⟨Nat.le_refl _⟩, ⟨by (with_reducible repeat (first | refine blk_drewN ?_ _ | refine blk_drew ?_ | refine blk_alloc ?_ _)); exact BK171.out⟩, ⟨by repeat (first | (with_reducible first | exact HB.out | apply below_alloc | apply pw_below_drewN | apply below_drew1 | refine below_set ?_ GE171.out) | exact HB.out)⟩⟩
 case round =>
  clear H'
  try clear p2
  try clear hcz3_0
  try clear hcz3_1
  try clear hcz3_2
  try clear hfz3_0
  try clear hfz3_1
  try clear hfz3_2
  obtain ⟨x10_1, rfl, HA, HK1, BK171, HB⟩ := hrel
  cases gk with
  | zero => exact absurd HA.out (by simp [footwayref15_twice.l0])
  | succ k1 =>
   have H := HA.out
   clear HA
   simp only [footwayref15_twice.l0] at H
   by_cases c4 : x10_1 < (l0_1.length : Int)
   ·rw [if_pos c4] at H
    have c4b0 : decide (x10_1 < (l0_1.length : Int)) = true := decide_eq_true c4
    clear c4
    have H' := Aside0.mk H
    clear H
    go_wp2
    repeat (go_quiet (fail); try go_wp2)
    go_loopg [4] k1 (fun kq v4 w' => ∃ (x4_2 : Int), v4 = .int .i64 x4_2 ∧ Aside0 (footwayref15_twice.l1 kq x10_1 x4_2 (l0_1.length : Int) x10_1 a0_0 l0_1 l0_2 = some r) ∧ Aside0 (kq ≤ k1) ∧ Aside0 (w'.heap[gb171]? = some (.cells #[.int .i64 a0_0, (.slice A0_1 l0_1.length c0_1), (.slice A0_2 l0_2.length c0_2)] 25 (0, 0))) ∧ Aside0 (Below w.heap.size w w'))
    case atStart => exact ⟨(0), (by first | rfl | (simp; done) | (simp [*]; done)), H', ⟨Nat.le_refl _⟩, ⟨by (with_reducible repeat (first | refine blk_drewN ?_ _ | refine blk_drew ?_ | refine blk_alloc ?_ _)); exact BK171.out⟩, ⟨by repeat (first | (with_reducible first | exact HB.out | apply below_alloc | apply pw_below_drewN | apply below_drew1 | refine below_set ?_ GE171.out) | exact HB.out)⟩⟩
    case round =>
     clear H'
     try clear p2
     try clear c4
     try clear c4b0
     try clear hcz3_0
     try clear hcz3_1
     try clear hcz3_2
     try clear hfz3_0
     try clear hfz3_1
     try clear hfz3_2
     try clear p2
     obtain ⟨x4_2, rfl, HA, HK2, BK171, HB⟩ := hrel
     cases gk with
     | zero => exact absurd HA.out (by simp [footwayref15_twice.l1])
     | succ k2 =>
      have H := HA.out
      clear HA
      simp only [footwayref15_twice.l1] at H
      by_cases c5 : x4_2 < x10_1
      ·rw [if_pos c5] at H
       have c5b0 : decide (x4_2 < x10_1) = true := decide_eq_true c5
       clear c5
       by_cases c6 : 0 ≤ x10_1
       ·rw [if_pos c6] at H
        have c6b0 : decide (0 ≤ x10_1) = true := decide_eq_true c6
        clear c6
        by_cases c7 : x10_1 < (l0_1.length : Int)
        ·rw [if_pos c7] at H
         have c7b0 : decide (x10_1 < (l0_1.length : Int)) = true := decide_eq_true c7
         clear c7
         by_cases c8 : 0 ≤ x4_2
         ·rw [if_pos c8] at H
          have c8b0 : decide (0 ≤ x4_2) = true := decide_eq_true c8
          clear c8
          by_cases c9 : x4_2 < (l0_1.length : Int)
          ·rw [if_pos c9] at H
           have c9b0 : decide (x4_2 < (l0_1.length : Int)) = true := decide_eq_true c9
           clear c9
           by_cases c10 : ((rd_T64 l0_1 x10_1).f0) = ((rd_T64 l0_1 x4_2).f0)
           ·rw [if_pos c10] at H
            have c10b0 : (((rd_T64 l0_1 x10_1).f0) == ((rd_T64 l0_1 x4_2).f0)) = true := beq_iff_eq.mpr c10
            have c10b1 : (((rd_T64 l0_1 x10_1).f0) != ((rd_T64 l0_1 x4_2).f0)) = false := bne_eq_false_iff_eq.mpr c10
            clear c10
            obtain rfl := Option.some.inj H
            have hcz11_0 : wr.cell? ⟨gb171, 0, none⟩ = some (.int .i64 a0_0) := (blk_cell BK171.out 0).trans rfl
            have hcz11_1 : wr.cell? ⟨gb171, 1, none⟩ = some (.slice A0_1 l0_1.length c0_1) := (blk_cell BK171.out 1).trans rfl
            have hcz11_2 : wr.cell? ⟨gb171, 2, none⟩ = some (.slice A0_2 l0_2.length c0_2) := (blk_cell BK171.out 2).trans rfl
            have hfz11_0 := blk_frozen BK171.out 0
            have hfz11_1 := blk_frozen BK171.out 1
            have hfz11_2 := blk_frozen BK171.out 2
            have p172 : 0 ≤ (x10_1 : Int) := of_decide_eq_true (by first | (with_reducible assumption) | assumption)
            have q172 : x10_1 < (l0_1.length : Int) := of_decide_eq_true (by first | (with_reducible assumption) | assumption)
            obtain ⟨ad172, A172_1, c172_1, e172, hx172_0, hx172_1, hl172_1, hi172_1⟩ := at_T64 HR0_1.out x10_1 p172 q172
            cases e172
            replace hx172_0 := (HB.out.cell (World.block_lt_of_cell? w _ hx172_0)).trans hx172_0
            replace hx172_1 := (HB.out.cell (World.block_lt_of_cell? w _ hx172_1)).trans hx172_1
            have HR172_1 := Aside0.mk hi172_1
            have HC172_1 := Aside0.mk hl172_1
            clear hi172_1 hl172_1
            replace p172 := eq_true p172
            replace q172 := eq_true q172
            have p173 : 0 ≤ (x4_2 : Int) := of_decide_eq_true (by first | (with_reducible assumption) | assumption)
            have q173 : x4_2 < (l0_1.length : Int) := of_decide_eq_true (by first | (with_reducible assumption) | assumption)
            obtain ⟨ad173, A173_1, c173_1, e173, hx173_0, hx173_1, hl173_1, hi173_1⟩ := at_T64 HR0_1.out x4_2 p173 q173
            obtain rfl : ad172 = ad173 := (by injection e173)
            replace hx173_0 := (HB.out.cell (World.block_lt_of_cell? w _ hx173_0)).trans hx173_0
            replace hx173_1 := (HB.out.cell (World.block_lt_of_cell? w _ hx173_1)).trans hx173_1
            have HR173_1 := Aside0.mk hi173_1
            have HC173_1 := Aside0.mk hl173_1
            clear hi173_1 hl173_1
            replace p173 := eq_true p173
            replace q173 := eq_true q173
            go_wp2
            repeat (go_quiet (fail); try go_wp2)
            go_ret
            exact ⟨by first | rfl | (simp [errW_none, errW_some] <;> rfl) | (simp [*, errW_none, errW_some] <;> rfl), by repeat (first | (with_reducible first | exact HB.out | apply below_alloc | apply pw_below_drewN | apply below_drew1 | refine below_set ?_ GE171.out) | exact HB.out)⟩
           ·rw [if_neg c10] at H
            have c10b0 : (((rd_T64 l0_1 x10_1).f0) == ((rd_T64 l0_1 x4_2).f0)) = false := beq_eq_false_iff_ne.mpr c10
            have c10b1 : (((rd_T64 l0_1 x10_1).f0) != ((rd_T64 l0_1 x4_2).f0)) = true := bne_iff_ne.mpr c10
            have H' := Aside0.mk H
            clear H
            have hcz12_0 : wr.cell? ⟨gb171, 0, none⟩ = some (.int .i64 a0_0) := (blk_cell BK171.out 0).trans rfl
            have hcz12_1 : wr.cell? ⟨gb171, 1, none⟩ = some (.slice A0_1 l0_1.length c0_1) := (blk_cell BK171.out 1).trans rfl
            have hcz12_2 : wr.cell? ⟨gb171, 2, none⟩ = some (.slice A0_2 l0_2.length c0_2) := (blk_cell BK171.out 2).trans rfl
            have hfz12_0 := blk_frozen BK171.out 0
            have hfz12_1 := blk_frozen BK171.out 1
            have hfz12_2 := blk_frozen BK171.out 2
            have p172 : 0 ≤ (x10_1 : Int) := of_decide_eq_true (by first | (with_reducible assumption) | assumption)
            have q172 : x10_1 < (l0_1.length : Int) := of_decide_eq_true (by first | (with_reducible assumption) | assumption)
            obtain ⟨ad172, A172_1, c172_1, e172, hx172_0, hx172_1, hl172_1, hi172_1⟩ := at_T64 HR0_1.out x10_1 p172 q172
            cases e172
            replace hx172_0 := (HB.out.cell (World.block_lt_of_cell? w _ hx172_0)).trans hx172_0
            replace hx172_1 := (HB.out.cell (World.block_lt_of_cell? w _ hx172_1)).trans hx172_1
            have HR172_1 := Aside0.mk hi172_1
            have HC172_1 := Aside0.mk hl172_1
            clear hi172_1 hl172_1
            replace p172 := eq_true p172
            replace q172 := eq_true q172
            have p173 : 0 ≤ (x4_2 : Int) := of_decide_eq_true (by first | (with_reducible assumption) | assumption)
            have q173 : x4_2 < (l0_1.length : Int) := of_decide_eq_true (by first | (with_reducible assumption) | assumption)
            obtain ⟨ad173, A173_1, c173_1, e173, hx173_0, hx173_1, hl173_1, hi173_1⟩ := at_T64 HR0_1.out x4_2 p173 q173
            obtain rfl : ad172 = ad173 := (by injection e173)
            replace hx173_0 := (HB.out.cell (World.block_lt_of_cell? w _ hx173_0)).trans hx173_0
            replace hx173_1 := (HB.out.cell (World.block_lt_of_cell? w _ hx173_1)).trans hx173_1
            have HR173_1 := Aside0.mk hi173_1
            have HC173_1 := Aside0.mk hl173_1
            clear hi173_1 hl173_1
            replace p173 := eq_true p173
            replace q173 := eq_true q173
            go_wp2
            repeat (go_quiet (fail); try go_wp2)
            go_roundg k2
            case measure => have := HK1.out; have := HK2.out; omega
            case rel => exact ⟨(wrap64 (x4_2 + 1)), (by first | rfl | (simp; done) | (simp [*]; done)), H', ⟨by have := HK1.out; have := HK2.out; omega⟩, ⟨by (with_reducible repeat (first | refine blk_drewN ?_ _ | refine blk_drew ?_ | refine blk_alloc ?_ _)); exact BK171.out⟩, ⟨by repeat (first | (with_reducible first | exact HB.out | apply below_alloc | apply pw_below_drewN | apply below_drew1 | refine below_set ?_ GE171.out) | exact HB.out)⟩⟩
          ·rw [if_neg c9] at H
           exact absurd H (by simp)
         ·rw [if_neg c8] at H
          exact absurd H (by simp)
        ·rw [if_neg c7] at H
         exact absurd H (by simp)
       ·rw [if_neg c6] at H
        exact absurd H (by simp)
      ·rw [if_neg c5] at H
       have c5b0 : decide (x4_2 < x10_1) = false := decide_eq_false c5
       clear c5
       have H' := Aside0.mk H
       clear H
       go_wp2
       repeat (go_quiet (fail); try go_wp2)
       go_roundg k2
       case measure => have := HK1.out; have := HK2.out; omega
       case rel => exact ⟨(wrap64 (x10_1 + 1)), (by first | rfl | (simp; done) | (simp [*]; done)), H', ⟨by have := HK1.out; have := HK2.out; omega⟩, ⟨by (with_reducible repeat (first | refine blk_drewN ?_ _ | refine blk_drew ?_ | refine blk_alloc ?_ _)); exact BK171.out⟩, ⟨by repeat (first | (with_reducible first | exact HB.out | apply below_alloc | apply pw_below_drewN | apply below_drew1 | refine below_set ?_ GE171.out) | exact HB.out)⟩⟩
   ·rw [if_neg c4] at H
    have c4b0 : decide (x10_1 < (l0_1.length : Int)) = false := decide_eq_false c4
    clear c4
    have H' := Aside0.mk H
    clear H
    have hcz13_0 : wr.cell? ⟨gb171, 0, none⟩ = some (.int .i64 a0_0) := (blk_cell BK171.out 0).trans rfl
    have hcz13_1 : wr.cell? ⟨gb171, 1, none⟩ = some (.slice A0_1 l0_1.length c0_1) := (blk_cell BK171.out 1).trans rfl
    have hcz13_2 : wr.cell? ⟨gb171, 2, none⟩ = some (.slice A0_2 l0_2.length c0_2) := (blk_cell BK171.out 2).trans rfl
    have hfz13_0 := blk_frozen BK171.out 0
    have hfz13_1 := blk_frozen BK171.out 1
    have hfz13_2 := blk_frozen BK171.out 2
    go_wp2
    repeat (go_quiet (fail); try go_wp2)
    go_loopg [35] k1 (fun kq v35 w' => ∃ (x35_2 : Int), v35 = .int .i64 x35_2 ∧ Aside0 (footwayref15_twice.l2 kq (l0_2.length : Int) x35_2 a0_0 l0_1 l0_2 = some r) ∧ Aside0 (kq ≤ k1) ∧ Aside0 (w'.heap[gb171]? = some (.cells #[.int .i64 a0_0, (.slice A0_1 l0_1.length c0_1), (.slice A0_2 l0_2.length c0_2)] 25 (0, 0))) ∧ Aside0 (Below w.heap.size w w'))
    case atStart => exact ⟨(0), (by first | rfl | (simp; done) | (simp [*]; done)), H', ⟨Nat.le_refl _⟩, ⟨by (with_reducible repeat (first | refine blk_drewN ?_ _ | refine blk_drew ?_ | refine blk_alloc ?_ _)); exact BK171.out⟩, ⟨by repeat (first | (with_reducible first | exact HB.out | apply below_alloc | apply pw_below_drewN | apply below_drew1 | refine below_set ?_ GE171.out) | exact HB.out)⟩⟩
    case round =>
     clear H'
     try clear c1
     try clear p1
     try clear q1
     try clear hx1
     try clear p2
     try clear c4
     try clear c4b0
     try clear c5
     try clear c5b0
     try clear c6
     try clear c6b0
     try clear p6
     try clear c7
     try clear c7b0
     try clear c8
     try clear c8b0
     try clear c9
     try clear c9b0
     try clear c10
     try clear c10b0
     try clear c10b1
     try clear hcz11_0
     try clear hcz11_1
     try clear hcz11_2
     try clear hcz12_0
     try clear hcz12_1
     try clear hcz12_2
     try clear hcz13_0
     try clear hcz13_1
     try clear hcz13_2
     try clear hcz3_0
     try clear hcz3_1
     try clear hcz3_2
     try clear hfz11_0
     try clear hfz11_1
     try clear hfz11_2
     try clear hfz12_0
     try clear hfz12_1
     try clear hfz12_2
     try clear hfz13_0
     try clear hfz13_1
     try clear hfz13_2
     try clear hfz3_0
     try clear hfz3_1
     try clear hfz3_2
     try clear hx172_0
     try clear hx172_1
     try clear hx173_0
     try clear hx173_1
     try clear p172
     try clear p173
     try clear p2
     try clear q172
     try clear q173
     obtain ⟨x35_2, rfl, HA, HK2, BK171, HB⟩ := hrel
     cases gk with
     | zero => exact absurd HA.out (by simp [footwayref15_twice.l2])
     | succ k2 =>
      have H := HA.out
      clear HA
      simp only [footwayref15_twice.l2] at H
      by_cases c14 : x35_2 < (l0_2.length : Int)
      ·rw [if_pos c14] at H
       have c14b0 : decide (x35_2 < (l0_2.length : Int)) = true := decide_eq_true c14
       clear c14
       have H' := Aside0.mk H
       clear H
       go_wp2
       repeat (go_quiet (fail); try go_wp2)
       go_loopg [6] k2 (fun kq v6 w' => ∃ (x6_3 : Int), v6 = .int .i64 x6_3 ∧ Aside0 (footwayref15_twice.l3 kq x35_2 x6_3 (l0_2.length : Int) x35_2 a0_0 l0_1 l0_2 = some r) ∧ Aside0 (kq ≤ k2) ∧ Aside0 (w'.heap[gb171]? = some (.cells #[.int .i64 a0_0, (.slice A0_1 l0_1.length c0_1), (.slice A0_2 l0_2.length c0_2)] 25 (0, 0))) ∧ Aside0 (Below w.heap.size w w'))
       case atStart => exact ⟨(0), (by first | rfl | (simp; done) | (simp [*]; done)), H', ⟨Nat.le_refl _⟩, ⟨by (with_reducible repeat (first | refine blk_drewN ?_ _ | refine blk_drew ?_ | refine blk_alloc ?_ _)); exact BK171.out⟩, ⟨by repeat (first | (with_reducible first | exact HB.out | apply below_alloc | apply pw_below_drewN | apply below_drew1 | refine below_set ?_ GE171.out) | exact HB.out)⟩⟩
       case round =>
        clear H'
        try clear c1
        try clear p1
        try clear q1
        try clear hx1
        try clear p2
        try clear c4
        try clear c4b0
        try clear c5
        try clear c5b0
        try clear c6
        try clear c6b0
        try clear p6
        try clear c7
        try clear c7b0
        try clear c8
        try clear c8b0
        try clear c9
        try clear c9b0
        try clear c10
        try clear c10b0
        try clear c10b1
        try clear c14
        try clear c14b0
        try clear hcz11_0
        try clear hcz11_1
        try clear hcz11_2
        try clear hcz12_0
        try clear hcz12_1
        try clear hcz12_2
        try clear hcz13_0
        try clear hcz13_1
        try clear hcz13_2
        try clear hcz3_0
        try clear hcz3_1
        try clear hcz3_2
        try clear hfz11_0
        try clear hfz11_1
        try clear hfz11_2
        try clear hfz12_0
        try clear hfz12_1
        try clear hfz12_2
        try clear hfz13_0
        try clear hfz13_1
        try clear hfz13_2
        try clear hfz3_0
        try clear hfz3_1
        try clear hfz3_2
        try clear hx172_0
        try clear hx172_1
        try clear hx173_0
        try clear hx173_1
        try clear p1
        try clear p172
        try clear p173
        try clear p2
        try clear p6
        try clear q1
        try clear q172
        try clear q173
        obtain ⟨x6_3, rfl, HA, HK3, BK171, HB⟩ := hrel
        cases gk with
        | zero => exact absurd HA.out (by simp [footwayref15_twice.l3])
        | succ k3 =>
         have H := HA.out
         clear HA
         simp only [footwayref15_twice.l3] at H
         by_cases c15 : x6_3 < x35_2
         ·rw [if_pos c15] at H
          have c15b0 : decide (x6_3 < x35_2) = true := decide_eq_true c15
          clear c15
          by_cases c16 : 0 ≤ x35_2
          ·rw [if_pos c16] at H
           have c16b0 : decide (0 ≤ x35_2) = true := decide_eq_true c16
           clear c16
           by_cases c17 : x35_2 < (l0_2.length : Int)
           ·rw [if_pos c17] at H
            have c17b0 : decide (x35_2 < (l0_2.length : Int)) = true := decide_eq_true c17
            clear c17
            by_cases c18 : 0 ≤ x6_3
            ·rw [if_pos c18] at H
             have c18b0 : decide (0 ≤ x6_3) = true := decide_eq_true c18
             clear c18
             by_cases c19 : x6_3 < (l0_2.length : Int)
             ·rw [if_pos c19] at H
              have c19b0 : decide (x6_3 < (l0_2.length : Int)) = true := decide_eq_true c19
              clear c19
              by_cases c20 : ((rd_T91 l0_2 x35_2).f0) = ((rd_T91 l0_2 x6_3).f0)
              ·rw [if_pos c20] at H
               have c20b0 : (((rd_T91 l0_2 x35_2).f0) == ((rd_T91 l0_2 x6_3).f0)) = true := beq_iff_eq.mpr c20
               have c20b1 : (((rd_T91 l0_2 x35_2).f0) != ((rd_T91 l0_2 x6_3).f0)) = false := bne_eq_false_iff_eq.mpr c20
               clear c20
               obtain rfl := Option.some.inj H
               have hcz21_0 : wr.cell? ⟨gb171, 0, none⟩ = some (.int .i64 a0_0) := (blk_cell BK171.out 0).trans rfl
               have hcz21_1 : wr.cell? ⟨gb171, 1, none⟩ = some (.slice A0_1 l0_1.length c0_1) := (blk_cell BK171.out 1).trans rfl
               have hcz21_2 : wr.cell? ⟨gb171, 2, none⟩ = some (.slice A0_2 l0_2.length c0_2) := (blk_cell BK171.out 2).trans rfl
               have hfz21_0 := blk_frozen BK171.out 0
               have hfz21_1 := blk_frozen BK171.out 1
               have hfz21_2 := blk_frozen BK171.out 2
               have p174 : 0 ≤ (x35_2 : Int) := of_decide_eq_true (by first | (with_reducible assumption) | assumption)
               have q174 : x35_2 < (l0_2.length : Int) := of_decide_eq_true (by first | (with_reducible assumption) | assumption)
               obtain ⟨ad174, e174, hx174_0, hx174_1⟩ := at_T91 HR0_2.out x35_2 p174 q174
               cases e174
               replace hx174_0 := (HB.out.cell (World.block_lt_of_cell? w _ hx174_0)).trans hx174_0
               replace hx174_1 := (HB.out.cell (World.block_lt_of_cell? w _ hx174_1)).trans hx174_1
               replace p174 := eq_true p174
               replace q174 := eq_true q174
               have p175 : 0 ≤ (x6_3 : Int) := of_decide_eq_true (by first | (with_reducible assumption) | assumption)
               have q175 : x6_3 < (l0_2.length : Int) := of_decide_eq_true (by first | (with_reducible assumption) | assumption)
               obtain ⟨ad175, e175, hx175_0, hx175_1⟩ := at_T91 HR0_2.out x6_3 p175 q175
               obtain rfl : ad174 = ad175 := (by injection e175)
               replace hx175_0 := (HB.out.cell (World.block_lt_of_cell? w _ hx175_0)).trans hx175_0
               replace hx175_1 := (HB.out.cell (World.block_lt_of_cell? w _ hx175_1)).trans hx175_1
               replace p175 := eq_true p175
               replace q175 := eq_true q175
               go_wp2
               repeat (go_quiet (fail); try go_wp2)
               go_ret
               exact ⟨by first | rfl | (simp [errW_none, errW_some] <;> rfl) | (simp [*, errW_none, errW_some] <;> rfl), by repeat (first | (with_reducible first | exact HB.out | apply below_alloc | apply pw_below_drewN | apply below_drew1 | refine below_set ?_ GE171.out) | exact HB.out)⟩
              ·rw [if_neg c20] at H
               have c20b0 : (((rd_T91 l0_2 x35_2).f0) == ((rd_T91 l0_2 x6_3).f0)) = false := beq_eq_false_iff_ne.mpr c20
               have c20b1 : (((rd_T91 l0_2 x35_2).f0) != ((rd_T91 l0_2 x6_3).f0)) = true := bne_iff_ne.mpr c20
               have H' := Aside0.mk H
               clear H
               have hcz22_0 : wr.cell? ⟨gb171, 0, none⟩ = some (.int .i64 a0_0) := (blk_cell BK171.out 0).trans rfl
               have hcz22_1 : wr.cell? ⟨gb171, 1, none⟩ = some (.slice A0_1 l0_1.length c0_1) := (blk_cell BK171.out 1).trans rfl
               have hcz22_2 : wr.cell? ⟨gb171, 2, none⟩ = some (.slice A0_2 l0_2.length c0_2) := (blk_cell BK171.out 2).trans rfl
               have hfz22_0 := blk_frozen BK171.out 0
               have hfz22_1 := blk_frozen BK171.out 1
               have hfz22_2 := blk_frozen BK171.out 2
               have p174 : 0 ≤ (x35_2 : Int) := of_decide_eq_true (by first | (with_reducible assumption) | assumption)
               have q174 : x35_2 < (l0_2.length : Int) := of_decide_eq_true (by first | (with_reducible assumption) | assumption)
               obtain ⟨ad174, e174, hx174_0, hx174_1⟩ := at_T91 HR0_2.out x35_2 p174 q174
               cases e174
               replace hx174_0 := (HB.out.cell (World.block_lt_of_cell? w _ hx174_0)).trans hx174_0
               replace hx174_1 := (HB.out.cell (World.block_lt_of_cell? w _ hx174_1)).trans hx174_1
               replace p174 := eq_true p174
               replace q174 := eq_true q174
               have p175 : 0 ≤ (x6_3 : Int) := of_decide_eq_true (by first | (with_reducible assumption) | assumption)
               have q175 : x6_3 < (l0_2.length : Int) := of_decide_eq_true (by first | (with_reducible assumption) | assumption)
               obtain ⟨ad175, e175, hx175_0, hx175_1⟩ := at_T91 HR0_2.out x6_3 p175 q175
               obtain rfl : ad174 = ad175 := (by injection e175)
               replace hx175_0 := (HB.out.cell (World.block_lt_of_cell? w _ hx175_0)).trans hx175_0
               replace hx175_1 := (HB.out.cell (World.block_lt_of_cell? w _ hx175_1)).trans hx175_1
               replace p175 := eq_true p175
               replace q175 := eq_true q175
               go_wp2
               repeat (go_quiet (fail); try go_wp2)
               go_roundg k3
               case measure => have := HK1.out; have := HK2.out; have := HK3.out; omega
               case rel => exact ⟨(wrap64 (x6_3 + 1)), (by first | rfl | (simp; done) | (simp [*]; done)), H', ⟨by have := HK1.out; have := HK2.out; have := HK3.out; omega⟩, ⟨by (with_reducible repeat (first | refine blk_drewN ?_ _ | refine blk_drew ?_ | refine blk_alloc ?_ _)); exact BK171.out⟩, ⟨by repeat (first | (with_reducible first | exact HB.out | apply below_alloc | apply pw_below_drewN | apply below_drew1 | refine below_set ?_ GE171.out) | exact HB.out)⟩⟩
             ·rw [if_neg c19] at H
              exact absurd H (by simp)
            ·rw [if_neg c18] at H
             exact absurd H (by simp)
           ·rw [if_neg c17] at H
            exact absurd H (by simp)
          ·rw [if_neg c16] at H
           exact absurd H (by simp)
         ·rw [if_neg c15] at H
          have c15b0 : decide (x6_3 < x35_2) = false := decide_eq_false c15
          clear c15
          have H' := Aside0.mk H
          clear H
          go_wp2
          repeat (go_quiet (fail); try go_wp2)
          go_roundg k3
          case measure => have := HK1.out; have := HK2.out; have := HK3.out; omega
          case rel => exact ⟨(wrap64 (x35_2 + 1)), (by first | rfl | (simp; done) | (simp [*]; done)), H', ⟨by have := HK1.out; have := HK2.out; have := HK3.out; omega⟩, ⟨by (with_reducible repeat (first | refine blk_drewN ?_ _ | refine blk_drew ?_ | refine blk_alloc ?_ _)); exact BK171.out⟩, ⟨by repeat (first | (with_reducible first | exact HB.out | apply below_alloc | apply pw_below_drewN | apply below_drew1 | refine below_set ?_ GE171.out) | exact HB.out)⟩⟩
      ·rw [if_neg c14] at H
       have c14b0 : decide (x35_2 < (l0_2.length : Int)) = false := decide_eq_false c14
       clear c14
       obtain rfl := Option.some.inj H
       go_wp2
       repeat (go_quiet (fail); try go_wp2)
       go_ret
       exact ⟨by first | rfl | (simp [errW_none, errW_some] <;> rfl) | (simp [*, errW_none, errW_some] <;> rfl), by repeat (first | (with_reducible first | exact HB.out | apply below_alloc | apply pw_below_drewN | apply below_drew1 | refine below_set ?_ GE171.out) | exact HB.out)⟩
end
end Go.Proofs.Ytjblfgagafmhcaa.K
