/- Part 21 of the proof of one statement: what is written for it by hand and by a program of this seat's, over the given program's form. Conditions: none. -/
import Derived.Test.YtjblfgagafmhcaaZ7
import Derived.Test.YtjblfgagafmhcaaZ19
import Derived.Test.YtjblfgagafmhcaaZ20
set_option linter.unusedVariables false
set_option linter.unusedSimpArgs false
namespace Go.Proofs.Ytjblfgagafmhcaa.K
open Go.RowKit Go.Proofs.YtjblfgagafmhcaaW.PrintWords Go.Proofs.YtjblfgagafmhcaaW.PrintLast Go.Proofs.YtjblfgagafmhcaaW.PrintMore
attribute [local go_sem] max2_int min2_int max_two min_two max_three min_three max_four min_four   -- for this text's walks alone
set_option linter.unusedVariables false
set_option linter.unusedSimpArgs false
noncomputable section
mutual
def footwayref15_Right.j0 : Nat → Bool → Int → List (S64) → List (S91) → Option (Bool)
 | 0, _, _, _, _ => none
 | k + 1, x30, x182000, x182001, x182002 => if x30 = true then (some false) else (footwayref15_Right.l0 k x182001 (x182001.length : Int) 0 x182000 x182001 x182002)
def footwayref15_Right.l0 : Nat → List (S64) → Int → Int → Int → List (S64) → List (S91) → Option (Bool)
 | 0, _, _, _, _, _, _ => none
 | k + 1, x32, x33, x34, x182000, x182001, x182002 => if x34 < x33 then (if 0 ≤ x34 then (if x34 < (x32.length : Int) then ((footwayref15_plan.f k ((rd_T64 x32 x34).f0) ((rd_T64 x32 x34).f1) x182000).bind fun t185 => (if t185 = true then (footwayref15_Right.l0 k x32 x33 (wrap64 (x34 + 1)) x182000 x182001 x182002) else (some false))) else (none)) else (none)) else (footwayref15_Right.l1 k x182002 (x182002.length : Int) 0 x182000 x182001 x182002)
def footwayref15_Right.l1 : Nat → List (S91) → Int → Int → Int → List (S64) → List (S91) → Option (Bool)
 | 0, _, _, _, _, _, _ => none
 | k + 1, x45, x46, x47, x182000, x182001, x182002 => if x47 < x46 then (if 0 ≤ x47 then (if x47 < (x45.length : Int) then ((footwayref08_Mac.f ((rd_T91 x45 x47).f0)).bind fun t188 => (if t188 = true then (if ((rd_T91 x45 x47).f1) < 0 then (some false) else (if ((rd_T91 x45 x47).f1) ≥ x182000 then (some false) else (footwayref15_Right.l1 k x45 x46 (wrap64 (x47 + 1)) x182000 x182001 x182002))) else (some false))) else (none)) else (none)) else (some true)
end
def footwayref15_Right.f (k : Nat) (a0_0 : Int) (l0_1 : List (S64)) (l0_2 : List (S91)) : Option (Bool) := if a0_0 < 1 then (footwayref15_Right.j0 k true a0_0 l0_1 l0_2) else (if a0_0 > 8 then (footwayref15_Right.j0 k true a0_0 l0_1 l0_2) else (if (l0_1.length : Int) > 6 then (footwayref15_Right.j0 k true a0_0 l0_1 l0_2) else (if (l0_2.length : Int) > 8 then (footwayref15_Right.j0 k true a0_0 l0_1 l0_2) else ((footwayref15_twice.f k a0_0 l0_1 l0_2).bind fun t182 => (footwayref15_Right.j0 k t182 a0_0 l0_1 l0_2)))))
theorem footwayref15_Right.mono_l : ∀ k, (∀ y0 y1 y2 y3, LeO (footwayref15_Right.j0 k y0 y1 y2 y3) (footwayref15_Right.j0 (k + 1) y0 y1 y2 y3)) ∧ (∀ y0 y1 y2 y3 y4 y5, LeO (footwayref15_Right.l0 k y0 y1 y2 y3 y4 y5) (footwayref15_Right.l0 (k + 1) y0 y1 y2 y3 y4 y5)) ∧ (∀ y0 y1 y2 y3 y4 y5, LeO (footwayref15_Right.l1 k y0 y1 y2 y3 y4 y5) (footwayref15_Right.l1 (k + 1) y0 y1 y2 y3 y4 y5))
 | 0 => ⟨fun _ _ _ _ r h => by simp [footwayref15_Right.j0] at h, fun _ _ _ _ _ _ r h => by simp [footwayref15_Right.l0] at h, fun _ _ _ _ _ _ r h => by simp [footwayref15_Right.l1] at h⟩
 | k + 1 => by
  obtain ⟨ih0, ih1, ih2⟩ := footwayref15_Right.mono_l k
  refine ⟨?_, ?_, ?_⟩
  ·intro y0 y1 y2 y3
   unfold footwayref15_Right.j0
   repeat' first
   | (with_reducible exact ih0 _ _ _ _)
   | (with_reducible exact ih1 _ _ _ _ _ _)
   | (with_reducible exact ih2 _ _ _ _ _ _)
   | (with_reducible exact footwayref15_plan.mono _ _ _ _)
   | (with_reducible exact footwayref15_twice.mono _ _ _ _)
   | (with_reducible exact LeO.refl _)
   | (with_reducible exact LeO.none _)
   | (with_reducible refine LeO.ite ?_ ?_)
   | (with_reducible refine LeO.bind ?_ (fun _ => ?_))
   | exact ih0 _ _ _ _
   | exact ih1 _ _ _ _ _ _
   | exact ih2 _ _ _ _ _ _
   | exact footwayref15_plan.mono _ _ _ _
   | exact footwayref15_twice.mono _ _ _ _
   | exact LeO.none _
   | refine LeO.ite ?_ ?_
   | refine LeO.bind ?_ (fun _ => ?_)
  ·intro y0 y1 y2 y3 y4 y5
   unfold footwayref15_Right.l0
   repeat' first
   | (with_reducible exact ih0 _ _ _ _)
   | (with_reducible exact ih1 _ _ _ _ _ _)
   | (with_reducible exact ih2 _ _ _ _ _ _)
   | (with_reducible exact footwayref15_plan.mono _ _ _ _)
   | (with_reducible exact footwayref15_twice.mono _ _ _ _)
   | (with_reducible exact LeO.refl _)
   | (with_reducible exact LeO.none _)
   | (with_reducible refine LeO.ite ?_ ?_)
   | (with_reducible refine LeO.bind ?_ (fun _ => ?_))
   | exact ih0 _ _ _ _
   | exact ih1 _ _ _ _ _ _
   | exact ih2 _ _ _ _ _ _
   | exact footwayref15_plan.mono _ _ _ _
   | exact footwayref15_twice.mono _ _ _ _
   | exact LeO.none _
   | refine LeO.ite ?_ ?_
   | refine LeO.bind ?_ (fun _ => ?_)
  ·intro y0 y1 y2 y3 y4 y5
   unfold footwayref15_Right.l1
   repeat' first
   | (with_reducible exact ih0 _ _ _ _)
   | (with_reducible exact ih1 _ _ _ _ _ _)
   | (with_reducible exact ih2 _ _ _ _ _ _)
   | (with_reducible exact footwayref15_plan.mono _ _ _ _)
   | (with_reducible exact footwayref15_twice.mono _ _ _ _)
   | (with_reducible exact LeO.refl _)
   | (with_reducible exact LeO.none _)
   | (with_reducible refine LeO.ite ?_ ?_)
   | (with_reducible refine LeO.bind ?_ (fun _ => ?_))
   | exact ih0 _ _ _ _
   | exact ih1 _ _ _ _ _ _
   | exact ih2 _ _ _ _ _ _
   | exact footwayref15_plan.mono _ _ _ _
   | exact footwayref15_twice.mono _ _ _ _
   | exact LeO.none _
   | refine LeO.ite ?_ ?_
   | refine LeO.bind ?_ (fun _ => ?_)
theorem footwayref15_Right.mono : ∀ a0 a1 a2 k, LeO (footwayref15_Right.f k a0 a1 a2) (footwayref15_Right.f (k + 1) a0 a1 a2) := by
 intro a0 a1 a2 k
 obtain ⟨ih0, ih1, ih2⟩ := footwayref15_Right.mono_l k
 unfold footwayref15_Right.f
 repeat' first
   | (with_reducible exact ih0 _ _ _ _)
   | (with_reducible exact ih1 _ _ _ _ _ _)
   | (with_reducible exact ih2 _ _ _ _ _ _)
   | (with_reducible exact footwayref15_plan.mono _ _ _ _)
   | (with_reducible exact footwayref15_twice.mono _ _ _ _)
   | (with_reducible exact LeO.refl _)
   | (with_reducible exact LeO.none _)
   | (with_reducible refine LeO.ite ?_ ?_)
   | (with_reducible refine LeO.bind ?_ (fun _ => ?_))
   | exact ih0 _ _ _ _
   | exact ih1 _ _ _ _ _ _
   | exact ih2 _ _ _ _ _ _
   | exact footwayref15_plan.mono _ _ _ _
   | exact footwayref15_twice.mono _ _ _ _
   | exact LeO.none _
   | refine LeO.ite ?_ ?_
   | refine LeO.bind ?_ (fun _ => ?_)
set_option maxHeartbeats 8000000 in
set_option maxRecDepth 100000 in
theorem footwayref15_Right.calls (k : Nat) (a0_0 : Int) (A0_1 : Option Addr) (c0_1 : Nat) (l0_1 : List (S64)) (A0_2 : Option Addr) (c0_2 : Nat) (l0_2 : List (S91)) (r : Bool) (w : World) (hr0_1 : Kd.C k64 w A0_1 l0_1.length l0_1) (hc0_1 : l0_1.length ≤ c0_1) (hr0_2 : Kd.C k91 w A0_2 l0_2.length l0_2) (hc0_2 : l0_2.length ≤ c0_2) (h : footwayref15_Right.f k a0_0 l0_1 l0_2 = some r) :
  Calls Try.prog 22 #[.agg #[.int .i64 a0_0, .slice A0_1 l0_1.length c0_1, .slice A0_2 l0_2.length c0_2]] w fun e w' => e = .returned (.bool r) ∧ Below w.heap.size w w' := by
 have hu25 := Try.underlying25
 have hu64 := Try.underlying64
 have hu91 := Try.underlying91
 have HR0_1 := Aside0.mk hr0_1
 have HC0_1 := Aside0.mk hc0_1
 clear hr0_1 hc0_1
 have HR0_2 := Aside0.mk hr0_2
 have HC0_2 := Aside0.mk hc0_2
 clear hr0_2 hc0_2
 have HB := Aside0.mk (Below.refl w.heap.size w)
 have H : (if a0_0 < 1 then (footwayref15_Right.j0 k true a0_0 l0_1 l0_2) else (if a0_0 > 8 then (footwayref15_Right.j0 k true a0_0 l0_1 l0_2) else (if (l0_1.length : Int) > 6 then (footwayref15_Right.j0 k true a0_0 l0_1 l0_2) else (if (l0_2.length : Int) > 8 then (footwayref15_Right.j0 k true a0_0 l0_1 l0_2) else ((footwayref15_twice.f k a0_0 l0_1 l0_2).bind fun t182 => (footwayref15_Right.j0 k t182 a0_0 l0_1 l0_2)))))) = some r := h
 clear h
 have HC2 := Aside0.mk H
 clear H
 go_enter Try.func22, Try.ntmps22
 go_upto_region 1 with (first | ((with_reducible refine gate_dst (N := 1) rfl ?_); (try (refine gate_guard (by rfl) ?_; dsimp only)); refine box_event ?hg (N := 1) ?hd (cs := #[.int .i64 a0_0, .slice A0_1 l0_1.length c0_1, .slice A0_2 l0_2.length c0_2]) (t := 25) ?hr ?_; (case hd => rfl); (case hg => rfl); (case hr => first | (go_simp; done) | (go_simp; rfl)); intro gb181 hg w3 hbox hb; have n0_ := Aside0.mk (below_step (by repeat (first | (with_reducible first | exact HB.out | apply below_alloc | apply pw_below_drewN | apply below_drew1) | exact HB.out)) hb); have n1_ := Aside0.mk (hbox); have n2_ := Aside0.mk ((by rw [hg]; exact (below_size (by repeat (first | (with_reducible first | exact HB.out | apply below_alloc | apply pw_below_drewN | apply below_drew1) | exact HB.out))) : w.heap.size ≤ gb181)); have n3_ := Aside0.mk ((by rw [hg]; exact (below_size (by repeat (first | (with_reducible first | exact HB.out | apply below_alloc | apply pw_below_drewN | apply below_drew1) | exact HB.out))) : w.heap.size ≤ gb181)); clear HB; have HB := n0_; have BK181 := n1_; have GW181 := n2_; have GE181 := n3_; clear n0_ n1_ n2_ n3_; clear hb hbox hg))
 (try simp only [Act.put, List.setIfInBounds_toArray, List.set_cons_zero, List.set_cons_succ])
 go_cut [30] (fun v30 wc => ∃ (kq : Nat) (x30_1 : Bool), v30 = .bool x30_1 ∧ Aside0 (footwayref15_Right.j0 kq x30_1 a0_0 l0_1 l0_2 = some r) ∧ Aside0 (kq ≤ k) ∧ Aside0 (wc.heap[gb181]? = some (.cells #[.int .i64 a0_0, (.slice A0_1 l0_1.length c0_1), (.slice A0_2 l0_2.length c0_2)] 25 (0, 0))) ∧ Aside0 (Below w.heap.size w wc))
 case first =>
  have H := HC2.out
  clear HC2
  by_cases c4 : a0_0 < 1
  ·rw [if_pos c4] at H
   have c4b0 : decide (a0_0 < 1) = true := decide_eq_true c4
   clear c4
   (first | rw [c4b0] | (simp only [i64_w, i32_w]; rw [c4b0]) | skip)
   have H' := Aside0.mk H
   clear H
   have hcz5_0 : w3.cell? ⟨gb181, 0, none⟩ = some (.int .i64 a0_0) := (blk_cell BK181.out 0).trans rfl
   have hcz5_1 : w3.cell? ⟨gb181, 1, none⟩ = some (.slice A0_1 l0_1.length c0_1) := (blk_cell BK181.out 1).trans rfl
   have hcz5_2 : w3.cell? ⟨gb181, 2, none⟩ = some (.slice A0_2 l0_2.length c0_2) := (blk_cell BK181.out 2).trans rfl
   have hfz5_0 := blk_frozen BK181.out 0
   have hfz5_1 := blk_frozen BK181.out 1
   have hfz5_2 := blk_frozen BK181.out 2
   go_wp2
   go_meet
   case rel => exact ⟨_, (true), (by first | rfl | (simp; done) | (simp [*]; done)), H', ⟨by first | omega | exact Nat.le_refl _⟩, ⟨by (with_reducible repeat (first | refine blk_drewN ?_ _ | refine blk_drew ?_ | refine blk_alloc ?_ _)); exact BK181.out⟩, ⟨by repeat (first | (with_reducible first | exact HB.out | apply below_alloc | apply pw_below_drewN | apply below_drew1 | refine below_set ?_ GE181.out) | exact HB.out)⟩⟩
  ·rw [if_neg c4] at H
   have c4b0 : decide (a0_0 < 1) = false := decide_eq_false c4
   clear c4
   (first | rw [c4b0] | (simp only [i64_w, i32_w]; rw [c4b0]) | skip)
   by_cases c6 : a0_0 > 8
   ·rw [if_pos c6] at H
    have c6b0 : decide (8 < a0_0) = true := decide_eq_true c6
    clear c6
    have H' := Aside0.mk H
    clear H
    have hcz7_0 : w3.cell? ⟨gb181, 0, none⟩ = some (.int .i64 a0_0) := (blk_cell BK181.out 0).trans rfl
    have hcz7_1 : w3.cell? ⟨gb181, 1, none⟩ = some (.slice A0_1 l0_1.length c0_1) := (blk_cell BK181.out 1).trans rfl
    have hcz7_2 : w3.cell? ⟨gb181, 2, none⟩ = some (.slice A0_2 l0_2.length c0_2) := (blk_cell BK181.out 2).trans rfl
    have hfz7_0 := blk_frozen BK181.out 0
    have hfz7_1 := blk_frozen BK181.out 1
    have hfz7_2 := blk_frozen BK181.out 2
    go_wp2
    go_meet
    case rel => exact ⟨_, (true), (by first | rfl | (simp; done) | (simp [*]; done)), H', ⟨by first | omega | exact Nat.le_refl _⟩, ⟨by (with_reducible repeat (first | refine blk_drewN ?_ _ | refine blk_drew ?_ | refine blk_alloc ?_ _)); exact BK181.out⟩, ⟨by repeat (first | (with_reducible first | exact HB.out | apply below_alloc | apply pw_below_drewN | apply below_drew1 | refine below_set ?_ GE181.out) | exact HB.out)⟩⟩
   ·rw [if_neg c6] at H
    have c6b0 : decide (8 < a0_0) = false := decide_eq_false c6
    clear c6
    by_cases c8 : (l0_1.length : Int) > 6
    ·rw [if_pos c8] at H
     have c8b0 : decide (6 < (l0_1.length : Int)) = true := decide_eq_true c8
     have c8b1 : decide (6 < l0_1.length) = true := decide_eq_true (by omega)
     clear c8
     have H' := Aside0.mk H
     clear H
     have hcz9_0 : w3.cell? ⟨gb181, 0, none⟩ = some (.int .i64 a0_0) := (blk_cell BK181.out 0).trans rfl
     have hcz9_1 : w3.cell? ⟨gb181, 1, none⟩ = some (.slice A0_1 l0_1.length c0_1) := (blk_cell BK181.out 1).trans rfl
     have hcz9_2 : w3.cell? ⟨gb181, 2, none⟩ = some (.slice A0_2 l0_2.length c0_2) := (blk_cell BK181.out 2).trans rfl
     have hfz9_0 := blk_frozen BK181.out 0
     have hfz9_1 := blk_frozen BK181.out 1
     have hfz9_2 := blk_frozen BK181.out 2
     go_wp2
     go_meet
     case rel => exact ⟨_, (true), (by first | rfl | (simp; done) | (simp [*]; done)), H', ⟨by first | omega | exact Nat.le_refl _⟩, ⟨by (with_reducible repeat (first | refine blk_drewN ?_ _ | refine blk_drew ?_ | refine blk_alloc ?_ _)); exact BK181.out⟩, ⟨by repeat (first | (with_reducible first | exact HB.out | apply below_alloc | apply pw_below_drewN | apply below_drew1 | refine below_set ?_ GE181.out) | exact HB.out)⟩⟩
    ·rw [if_neg c8] at H
     have c8b0 : decide (6 < (l0_1.length : Int)) = false := decide_eq_false c8
     have c8b1 : decide (6 < l0_1.length) = false := decide_eq_false (by omega)
     clear c8
     by_cases c10 : (l0_2.length : Int) > 8
     ·rw [if_pos c10] at H
      have c10b0 : decide (8 < (l0_2.length : Int)) = true := decide_eq_true c10
      have c10b1 : decide (8 < l0_2.length) = true := decide_eq_true (by omega)
      clear c10
      have H' := Aside0.mk H
      clear H
      have hcz11_0 : w3.cell? ⟨gb181, 0, none⟩ = some (.int .i64 a0_0) := (blk_cell BK181.out 0).trans rfl
      have hcz11_1 : w3.cell? ⟨gb181, 1, none⟩ = some (.slice A0_1 l0_1.length c0_1) := (blk_cell BK181.out 1).trans rfl
      have hcz11_2 : w3.cell? ⟨gb181, 2, none⟩ = some (.slice A0_2 l0_2.length c0_2) := (blk_cell BK181.out 2).trans rfl
      have hfz11_0 := blk_frozen BK181.out 0
      have hfz11_1 := blk_frozen BK181.out 1
      have hfz11_2 := blk_frozen BK181.out 2
      go_wp2
      go_meet
      case rel => exact ⟨_, (true), (by first | rfl | (simp; done) | (simp [*]; done)), H', ⟨by first | omega | exact Nat.le_refl _⟩, ⟨by (with_reducible repeat (first | refine blk_drewN ?_ _ | refine blk_drew ?_ | refine blk_alloc ?_ _)); exact BK181.out⟩, ⟨by repeat (first | (with_reducible first | exact HB.out | apply below_alloc | apply pw_below_drewN | apply below_drew1 | refine below_set ?_ GE181.out) | exact HB.out)⟩⟩
     ·rw [if_neg c10] at H
      have c10b0 : decide (8 < (l0_2.length : Int)) = false := decide_eq_false c10
      have c10b1 : decide (8 < l0_2.length) = false := decide_eq_false (by omega)
      clear c10
      replace H := Option.bind_eq_some_iff.mp H
      obtain ⟨t182, A120, H⟩ := H
      replace H : (footwayref15_Right.j0 k t182 a0_0 l0_1 l0_2) = some r := H
      have A12 := Aside0.mk A120
      clear A120
      have H' := Aside0.mk H
      clear H
      have hcz13_0 : w3.cell? ⟨gb181, 0, none⟩ = some (.int .i64 a0_0) := (blk_cell BK181.out 0).trans rfl
      have hcz13_1 : w3.cell? ⟨gb181, 1, none⟩ = some (.slice A0_1 l0_1.length c0_1) := (blk_cell BK181.out 1).trans rfl
      have hcz13_2 : w3.cell? ⟨gb181, 2, none⟩ = some (.slice A0_2 l0_2.length c0_2) := (blk_cell BK181.out 2).trans rfl
      have hfz13_0 := blk_frozen BK181.out 0
      have hfz13_1 := blk_frozen BK181.out 1
      have hfz13_2 := blk_frozen BK181.out 2
      go_wp2_with (first | (go_at_call 53; (with_reducible refine (footwayref15_twice.calls k a0_0 _ _ l0_1 _ _ l0_2 t182 _ ?side1 ?side2 ?side3 ?side4 A12.out).mono ?_); (case side1 => repeat (first | exact (Kd.C_below HR0_1.out HB.out) | (with_reducible refine Kd.C_alloc ?_ _) | (with_reducible refine Kd.C_drewN ?_ _) | (with_reducible refine Kd.C_drew ?_))); (case side2 => exact HC0_1.out); (case side3 => repeat (first | exact (Kd.C_below HR0_2.out HB.out) | (with_reducible refine Kd.C_alloc ?_ _) | (with_reducible refine Kd.C_drewN ?_ _) | (with_reducible refine Kd.C_drew ?_))); (case side4 => exact HC0_2.out); rintro e w14 ⟨rfl, hb⟩; have n0_ := Aside0.mk (blk_below (g := gb181) (o := .cells #[.int .i64 a0_0, .slice A0_1 l0_1.length c0_1, .slice A0_2 l0_2.length c0_2] 25 (0, 0)) (by (with_reducible repeat (first | refine blk_drewN ?_ _ | refine blk_drew ?_ | refine blk_alloc ?_ _)); exact BK181.out) hb); have n1_ := Aside0.mk (below_step (by repeat (first | (with_reducible first | exact HB.out | apply below_alloc | apply pw_below_drewN | apply below_drew1 | refine below_set ?_ GE181.out) | exact HB.out)) hb); clear BK181; clear HB; have BK181 := n0_; have HB := n1_; clear n0_ n1_; (try clear hb); (try clear hb2); (try clear hk); (try clear hi)))
      go_meet
      case rel => exact ⟨_, (t182), (by first | rfl | (simp; done) | (simp [*]; done)), H', ⟨by first | omega | exact Nat.le_refl _⟩, ⟨by (with_reducible repeat (first | refine blk_drewN ?_ _ | refine blk_drew ?_ | refine blk_alloc ?_ _)); exact BK181.out⟩, ⟨by repeat (first | (with_reducible first | exact HB.out | apply below_alloc | apply pw_below_drewN | apply below_drew1 | refine below_set ?_ GE181.out) | exact HB.out)⟩⟩
 case rest =>
  clear HC2
  try clear c1
  try clear c2
  try clear p2
  try clear c4
  try clear c4b0
  try clear c6
  try clear c6b0
  try clear c8
  try clear c8b0
  try clear c8b1
  try clear c10
  try clear c10b0
  try clear c10b1
  try clear hcz11_0
  try clear hcz11_1
  try clear hcz11_2
  try clear hcz13_0
  try clear hcz13_1
  try clear hcz13_2
  try clear hcz5_0
  try clear hcz5_1
  try clear hcz5_2
  try clear hcz7_0
  try clear hcz7_1
  try clear hcz7_2
  try clear hcz9_0
  try clear hcz9_1
  try clear hcz9_2
  try clear hfz11_0
  try clear hfz11_1
  try clear hfz11_2
  try clear hfz13_0
  try clear hfz13_1
  try clear hfz13_2
  try clear hfz5_0
  try clear hfz5_1
  try clear hfz5_2
  try clear hfz7_0
  try clear hfz7_1
  try clear hfz7_2
  try clear hfz9_0
  try clear hfz9_1
  try clear hfz9_2
  obtain ⟨kq, x30_1, rfl, HA, HJ1, BK181, HB⟩ := hcut
  cases kq with
  | zero => exact absurd HA.out (by simp [footwayref15_Right.j0])
  | succ kj1 =>
   have H := HA.out
   clear HA
   simp only [footwayref15_Right.j0] at H
   by_cases c15 : x30_1 = true
   ·subst c15
    have H1 : (some false) = some r := by rw [if_pos rfl] at H; exact H
    clear H
    have H := H1
    clear H1
    obtain rfl := Option.some.inj H
    go_wp2
    go_ret
    exact ⟨by first | rfl | (simp [errW_none, errW_some] <;> rfl) | (simp [*, errW_none, errW_some] <;> rfl), by repeat (first | (with_reducible first | exact HB.out | apply below_alloc | apply pw_below_drewN | apply below_drew1 | refine below_set ?_ GE181.out) | exact HB.out)⟩
   ·replace c15 := Bool.eq_false_iff.mpr c15
    subst c15
    have H1 : (footwayref15_Right.l0 kj1 l0_1 (l0_1.length : Int) 0 a0_0 l0_1 l0_2) = some r := by rw [if_neg (show ¬ (false = true) by decide)] at H; exact H
    clear H
    have H := H1
    clear H1
    have H' := Aside0.mk H
    clear H
    have hcz16_0 : wc.cell? ⟨gb181, 0, none⟩ = some (.int .i64 a0_0) := (blk_cell BK181.out 0).trans rfl
    have hcz16_1 : wc.cell? ⟨gb181, 1, none⟩ = some (.slice A0_1 l0_1.length c0_1) := (blk_cell BK181.out 1).trans rfl
    have hcz16_2 : wc.cell? ⟨gb181, 2, none⟩ = some (.slice A0_2 l0_2.length c0_2) := (blk_cell BK181.out 2).trans rfl
    have hfz16_0 := blk_frozen BK181.out 0
    have hfz16_1 := blk_frozen BK181.out 1
    have hfz16_2 := blk_frozen BK181.out 2
    go_wp2
    go_loopg [34] kj1 (fun kq v34 w' => ∃ (x34_2 : Int), v34 = .int .i64 x34_2 ∧ Aside0 (footwayref15_Right.l0 kq l0_1 (l0_1.length : Int) x34_2 a0_0 l0_1 l0_2 = some r) ∧ Aside0 (kq ≤ kj1) ∧ Aside0 (w'.heap[gb181]? = some (.cells #[.int .i64 a0_0, (.slice A0_1 l0_1.length c0_1), (.slice A0_2 l0_2.length c0_2)] 25 (0, 0))) ∧ Aside0 (Below w.heap.size w w'))
    case atStart => exact ⟨(0), (by first | rfl | (simp; done) | (simp [*]; done)), H', ⟨Nat.le_refl _⟩, ⟨by (with_reducible repeat (first | refine blk_drewN ?_ _ | refine blk_drew ?_ | refine blk_alloc ?_ _)); exact BK181.out⟩, ⟨by repeat (first | (with_reducible first | exact HB.out | apply below_alloc | apply pw_below_drewN | apply below_drew1 | refine below_set ?_ GE181.out) | exact HB.out)⟩⟩
    case round =>
     clear H'
     try clear c1
     try clear c2
     try clear p2
     try clear c4
     try clear c4b0
     try clear c6
     try clear c6b0
     try clear c8
     try clear c8b0
     try clear c8b1
     try clear c10
     try clear c10b0
     try clear c10b1
     try clear c15
     try clear hcz11_0
     try clear hcz11_1
     try clear hcz11_2
     try clear hcz13_0
     try clear hcz13_1
     try clear hcz13_2
     try clear hcz16_0
     try clear hcz16_1
     try clear hcz16_2
     try clear hcz5_0
     try clear hcz5_1
     try clear hcz5_2
     try clear hcz7_0
     try clear hcz7_1
     try clear hcz7_2
     try clear hcz9_0
     try clear hcz9_1
     try clear hcz9_2
     try clear hfz11_0
     try clear hfz11_1
     try clear hfz11_2
     try clear hfz13_0
     try clear hfz13_1
     try clear hfz13_2
     try clear hfz16_0
     try clear hfz16_1
     try clear hfz16_2
     try clear hfz5_0
     try clear hfz5_1
     try clear hfz5_2
     try clear hfz7_0
     try clear hfz7_1
     try clear hfz7_2
     try clear hfz9_0
     try clear hfz9_1
     try clear hfz9_2
     try clear p2
     obtain ⟨x34_2, rfl, HA, HK2, BK181, HB⟩ := hrel
     cases gk with
     | zero => exact absurd HA.out (by simp [footwayref15_Right.l0])
     | succ k2 =>
      have H := HA.out
      clear HA
      simp only [footwayref15_Right.l0] at H
      by_cases c17 : x34_2 < (l0_1.length : Int)
      ·rw [if_pos c17] at H
       have c17b0 : decide (x34_2 < (l0_1.length : Int)) = true := decide_eq_true c17
       clear c17
       by_cases c18 : 0 ≤ x34_2
       ·rw [if_pos c18] at H
        have c18b0 : decide (0 ≤ x34_2) = true := decide_eq_true c18
        clear c18
        by_cases c19 : x34_2 < (l0_1.length : Int)
        ·rw [if_pos c19] at H
         have c19b0 : decide (x34_2 < (l0_1.length : Int)) = true := decide_eq_true c19
         clear c19
         replace H := Option.bind_eq_some_iff.mp H
         obtain ⟨t185, A200, H⟩ := H
         replace H : (if t185 = true then (footwayref15_Right.l0 k2 l0_1 (l0_1.length : Int) (wrap64 (x34_2 + 1)) a0_0 l0_1 l0_2) else (some false)) = some r := H
         have A20 := Aside0.mk A200
         clear A200
         by_cases c21 : t185 = true
         ·subst c21
          have H1 : (footwayref15_Right.l0 k2 l0_1 (l0_1.length : Int) (wrap64 (x34_2 + 1)) a0_0 l0_1 l0_2) = some r := by rw [if_pos rfl] at H; exact H
          clear H
          have H := H1
          clear H1
          have H' := Aside0.mk H
          clear H
          have p183 : 0 ≤ (x34_2 : Int) := of_decide_eq_true (by first | (with_reducible assumption) | assumption)
          have q183 : x34_2 < (l0_1.length : Int) := of_decide_eq_true (by first | (with_reducible assumption) | assumption)
          obtain ⟨ad183, A183_1, c183_1, e183, hx183_0, hx183_1, hl183_1, hi183_1⟩ := at_T64 HR0_1.out x34_2 p183 q183
          cases e183
          replace hx183_0 := (HB.out.cell (World.block_lt_of_cell? w _ hx183_0)).trans hx183_0
          replace hx183_1 := (HB.out.cell (World.block_lt_of_cell? w _ hx183_1)).trans hx183_1
          have HR183_1 := Aside0.mk hi183_1
          have HC183_1 := Aside0.mk hl183_1
          clear hi183_1 hl183_1
          replace p183 := eq_true p183
          replace q183 := eq_true q183
          go_wp2_with (first | ((with_reducible refine gate_dst (N := 4) rfl ?_); (try (refine gate_guard (by rfl) ?_; dsimp only)); refine box_event ?hg (N := 4) ?hd (cs := #[.int .i64 0, .slice none 0 0]) (t := 64) ?hr ?_; (case hd => rfl); (case hg => rfl); (case hr => first | (go_simp; done) | (go_simp; rfl)); intro gb184 hg w22 hbox hb; have n0_ := Aside0.mk (blk_below (g := gb181) (o := .cells #[.int .i64 a0_0, .slice (some ad183) l0_1.length c0_1, .slice A0_2 l0_2.length c0_2] 25 (0, 0)) (by (with_reducible repeat (first | refine blk_drewN ?_ _ | refine blk_drew ?_ | refine blk_alloc ?_ _)); exact BK181.out) hb); have n1_ := Aside0.mk (below_step (by repeat (first | (with_reducible first | exact HB.out | apply below_alloc | apply pw_below_drewN | apply below_drew1 | refine below_set ?_ GE181.out) | exact HB.out)) hb); have n2_ := Aside0.mk (hbox); have n3_ := Aside0.mk ((by rw [hg]; exact (below_size (by repeat (first | (with_reducible first | exact HB.out | apply below_alloc | apply pw_below_drewN | apply below_drew1 | refine below_set ?_ GE181.out) | exact HB.out))) : w.heap.size ≤ gb184)); have n4_ := Aside0.mk ((by rw [hg]; exact (below_size (by repeat (first | (with_reducible first | exact HB.out | apply below_alloc | apply pw_below_drewN | apply below_drew1 | refine below_set ?_ GE181.out) | exact HB.out))) : w.heap.size ≤ gb184)); have n5_ := Aside0.mk ((by rw [hg]; exact Nat.ne_of_lt (blk_lt (g := gb181) (o := .cells #[.int .i64 a0_0, .slice (some ad183) l0_1.length c0_1, .slice A0_2 l0_2.length c0_2] 25 (0, 0)) (by (with_reducible repeat (first | refine blk_drewN ?_ _ | refine blk_drew ?_ | refine blk_alloc ?_ _)); exact BK181.out)) : gb181 ≠ gb184)); have n6_ := Aside0.mk ((by rw [hg]; exact Nat.ne_of_gt (blk_lt (g := gb181) (o := .cells #[.int .i64 a0_0, .slice (some ad183) l0_1.length c0_1, .slice A0_2 l0_2.length c0_2] 25 (0, 0)) (by (with_reducible repeat (first | refine blk_drewN ?_ _ | refine blk_drew ?_ | refine blk_alloc ?_ _)); exact BK181.out)) : gb184 ≠ gb181)); clear BK181; clear HB; have BK181 := n0_; have HB := n1_; have BK184 := n2_; have GW184 := n3_; have GE184 := n4_; have NB181_184 := n5_; have NB184_181 := n6_; clear n0_ n1_ n2_ n3_ n4_ n5_ n6_; clear hb hbox hg; have hnb23 := NB184_181.out; have hnc23 := NB181_184.out; have hcz24_0 : w22.cell? ⟨gb184, 0, none⟩ = some (.int .i64 0) := (blk_cell BK184.out 0).trans rfl; have hcz24_1 : w22.cell? ⟨gb184, 1, none⟩ = some (.slice none 0 0) := (blk_cell BK184.out 1).trans rfl; have hfz24_0 := blk_frozen BK184.out 0; have hfz24_1 := blk_frozen BK184.out 1; have hcz25_0 : w22.cell? ⟨gb181, 0, none⟩ = some (.int .i64 a0_0) := (blk_cell BK181.out 0).trans rfl; have hcz25_1 : w22.cell? ⟨gb181, 1, none⟩ = some (.slice (some ad183) l0_1.length c0_1) := (blk_cell BK181.out 1).trans rfl; have hcz25_2 : w22.cell? ⟨gb181, 2, none⟩ = some (.slice A0_2 l0_2.length c0_2) := (blk_cell BK181.out 2).trans rfl; have hfz25_0 := blk_frozen BK181.out 0; have hfz25_1 := blk_frozen BK181.out 1; have hfz25_2 := blk_frozen BK181.out 2) | ((with_reducible refine gate_callee (f := 54) rfl ?_); refine goesL_ (some 41) rfl rfl Try.func54 (by kernel_rfl) rfl #[.agg #[.int .i64 ((rd_T64 l0_1 x34_2).f0), .slice A183_1 ((rd_T64 l0_1 x34_2).f1).length c183_1], .int .i64 a0_0] rfl (by (try simp only [List.map_toArray, List.map_cons, List.map_nil]); first | done | rfl | (simp only [List.length_drop, List.length_take]; rfl)) ?_; (with_reducible refine (footwayref15_plan.calls k2 ((rd_T64 l0_1 x34_2).f0) _ _ ((rd_T64 l0_1 x34_2).f1) a0_0 true _ ?side1 ?side2 A20.out).mono ?_); (case side1 => exact Kd.C_below HR183_1.out (by repeat (first | (with_reducible first | exact HB.out | apply below_alloc | apply pw_below_drewN | apply below_drew1 | refine below_set ?_ GE181.out | refine below_set ?_ GE184.out) | exact HB.out))); (case side2 => exact HC183_1.out); rintro e w26 ⟨rfl, hb⟩; refine ⟨_, rfl, ?_⟩; have n0_ := Aside0.mk (blk_below (g := gb181) (o := .cells #[.int .i64 a0_0, .slice (some ad183) l0_1.length c0_1, .slice A0_2 l0_2.length c0_2] 25 (0, 0)) (by (with_reducible repeat (first | refine blk_drewN ?_ _ | refine blk_drew ?_ | refine blk_alloc ?_ _)); refine blk_far ?_ NB181_184.out _; (with_reducible repeat (first | refine blk_drewN ?_ _ | refine blk_drew ?_ | refine blk_alloc ?_ _)); refine blk_far ?_ NB181_184.out _; (with_reducible repeat (first | refine blk_drewN ?_ _ | refine blk_drew ?_ | refine blk_alloc ?_ _)); exact BK181.out) hb); have n1_ := Aside0.mk (blk_below (g := gb184) (o := .cells #[.int .i64 ((rd_T64 l0_1 x34_2).f0), .slice A183_1 ((rd_T64 l0_1 x34_2).f1).length c183_1] 64 (0, 0)) (by (with_reducible repeat (first | refine blk_drewN ?_ _ | refine blk_drew ?_ | refine blk_alloc ?_ _)); refine blk_put (cs := #[.int .i64 ((rd_T64 l0_1 x34_2).f0), .slice none 0 0]) ?_ 1 _ rfl; (with_reducible repeat (first | refine blk_drewN ?_ _ | refine blk_drew ?_ | refine blk_alloc ?_ _)); refine blk_put (cs := #[.int .i64 0, .slice none 0 0]) ?_ 0 _ rfl; (with_reducible repeat (first | refine blk_drewN ?_ _ | refine blk_drew ?_ | refine blk_alloc ?_ _)); exact BK184.out) hb); have n2_ := Aside0.mk (below_step (by repeat (first | (with_reducible first | exact HB.out | apply below_alloc | apply pw_below_drewN | apply below_drew1 | refine below_set ?_ GE181.out | refine below_set ?_ GE184.out) | exact HB.out)) hb); clear BK181; clear BK184; clear HB; have BK181 := n0_; have BK184 := n1_; have HB := n2_; clear n0_ n1_ n2_; (try clear hb); (try clear hb2); (try clear hk); (try clear hi)))
          go_roundg k2
          case measure => have := HJ1.out; have := HK2.out; omega
          case rel => exact ⟨(wrap64 (x34_2 + 1)), (by first | rfl | (simp; done) | (simp [*]; done)), H', ⟨by have := HJ1.out; have := HK2.out; omega⟩, ⟨by (with_reducible repeat (first | refine blk_drewN ?_ _ | refine blk_drew ?_ | refine blk_alloc ?_ _)); exact BK181.out⟩, ⟨by repeat (first | (with_reducible first | exact HB.out | apply below_alloc | apply pw_below_drewN | apply below_drew1 | refine below_set ?_ GE181.out | refine below_set ?_ GE184.out) | exact HB.out)⟩⟩
         ·replace c21 := Bool.eq_false_iff.mpr c21
          subst c21
          have H1 : (some false) = some r := by rw [if_neg (show ¬ (false = true) by decide)] at H; exact H
          clear H
          have H := H1
          clear H1
          obtain rfl := Option.some.inj H
          have p183 : 0 ≤ (x34_2 : Int) := of_decide_eq_true (by first | (with_reducible assumption) | assumption)
          have q183 : x34_2 < (l0_1.length : Int) := of_decide_eq_true (by first | (with_reducible assumption) | assumption)
          obtain ⟨ad183, A183_1, c183_1, e183, hx183_0, hx183_1, hl183_1, hi183_1⟩ := at_T64 HR0_1.out x34_2 p183 q183
          cases e183
          replace hx183_0 := (HB.out.cell (World.block_lt_of_cell? w _ hx183_0)).trans hx183_0
          replace hx183_1 := (HB.out.cell (World.block_lt_of_cell? w _ hx183_1)).trans hx183_1
          have HR183_1 := Aside0.mk hi183_1
          have HC183_1 := Aside0.mk hl183_1
          clear hi183_1 hl183_1
          replace p183 := eq_true p183
          replace q183 := eq_true q183
          go_wp2_with (first | ((with_reducible refine gate_dst (N := 4) rfl ?_); (try (refine gate_guard (by rfl) ?_; dsimp only)); refine box_event ?hg (N := 4) ?hd (cs := #[.int .i64 0, .slice none 0 0]) (t := 64) ?hr ?_; (case hd => rfl); (case hg => rfl); (case hr => first | (go_simp; done) | (go_simp; rfl)); intro gb184 hg w27 hbox hb; have n0_ := Aside0.mk (blk_below (g := gb181) (o := .cells #[.int .i64 a0_0, .slice (some ad183) l0_1.length c0_1, .slice A0_2 l0_2.length c0_2] 25 (0, 0)) (by (with_reducible repeat (first | refine blk_drewN ?_ _ | refine blk_drew ?_ | refine blk_alloc ?_ _)); exact BK181.out) hb); have n1_ := Aside0.mk (below_step (by repeat (first | (with_reducible first | exact HB.out | apply below_alloc | apply pw_below_drewN | apply below_drew1 | refine below_set ?_ GE181.out) | exact HB.out)) hb); have n2_ := Aside0.mk (hbox); have n3_ := Aside0.mk ((by rw [hg]; exact (below_size (by repeat (first | (with_reducible first | exact HB.out | apply below_alloc | apply pw_below_drewN | apply below_drew1 | refine below_set ?_ GE181.out) | exact HB.out))) : w.heap.size ≤ gb184)); have n4_ := Aside0.mk ((by rw [hg]; exact (below_size (by repeat (first | (with_reducible first | exact HB.out | apply below_alloc | apply pw_below_drewN | apply below_drew1 | refine below_set ?_ GE181.out) | exact HB.out))) : w.heap.size ≤ gb184)); have n5_ := Aside0.mk ((by rw [hg]; exact Nat.ne_of_lt (blk_lt (g := gb181) (o := .cells #[.int .i64 a0_0, .slice (some ad183) l0_1.length c0_1, .slice A0_2 l0_2.length c0_2] 25 (0, 0)) (by (with_reducible repeat (first | refine blk_drewN ?_ _ | refine blk_drew ?_ | refine blk_alloc ?_ _)); exact BK181.out)) : gb181 ≠ gb184)); have n6_ := Aside0.mk ((by rw [hg]; exact Nat.ne_of_gt (blk_lt (g := gb181) (o := .cells #[.int .i64 a0_0, .slice (some ad183) l0_1.length c0_1, .slice A0_2 l0_2.length c0_2] 25 (0, 0)) (by (with_reducible repeat (first | refine blk_drewN ?_ _ | refine blk_drew ?_ | refine blk_alloc ?_ _)); exact BK181.out)) : gb184 ≠ gb181)); clear BK181; clear HB; have BK181 := n0_; have HB := n1_; have BK184 := n2_; have GW184 := n3_; have GE184 := n4_; have NB181_184 := n5_; have NB184_181 := n6_; clear n0_ n1_ n2_ n3_ n4_ n5_ n6_; clear hb hbox hg; have hnb28 := NB184_181.out; have hnc28 := NB181_184.out; have hcz29_0 : w27.cell? ⟨gb184, 0, none⟩ = some (.int .i64 0) := (blk_cell BK184.out 0).trans rfl; have hcz29_1 : w27.cell? ⟨gb184, 1, none⟩ = some (.slice none 0 0) := (blk_cell BK184.out 1).trans rfl; have hfz29_0 := blk_frozen BK184.out 0; have hfz29_1 := blk_frozen BK184.out 1; have hcz30_0 : w27.cell? ⟨gb181, 0, none⟩ = some (.int .i64 a0_0) := (blk_cell BK181.out 0).trans rfl; have hcz30_1 : w27.cell? ⟨gb181, 1, none⟩ = some (.slice (some ad183) l0_1.length c0_1) := (blk_cell BK181.out 1).trans rfl; have hcz30_2 : w27.cell? ⟨gb181, 2, none⟩ = some (.slice A0_2 l0_2.length c0_2) := (blk_cell BK181.out 2).trans rfl; have hfz30_0 := blk_frozen BK181.out 0; have hfz30_1 := blk_frozen BK181.out 1; have hfz30_2 := blk_frozen BK181.out 2) | ((with_reducible refine gate_callee (f := 54) rfl ?_); refine goesL_ (some 41) rfl rfl Try.func54 (by kernel_rfl) rfl #[.agg #[.int .i64 ((rd_T64 l0_1 x34_2).f0), .slice A183_1 ((rd_T64 l0_1 x34_2).f1).length c183_1], .int .i64 a0_0] rfl (by (try simp only [List.map_toArray, List.map_cons, List.map_nil]); first | done | rfl | (simp only [List.length_drop, List.length_take]; rfl)) ?_; (with_reducible refine (footwayref15_plan.calls k2 ((rd_T64 l0_1 x34_2).f0) _ _ ((rd_T64 l0_1 x34_2).f1) a0_0 false _ ?side1 ?side2 A20.out).mono ?_); (case side1 => exact Kd.C_below HR183_1.out (by repeat (first | (with_reducible first | exact HB.out | apply below_alloc | apply pw_below_drewN | apply below_drew1 | refine below_set ?_ GE181.out | refine below_set ?_ GE184.out) | exact HB.out))); (case side2 => exact HC183_1.out); rintro e w31 ⟨rfl, hb⟩; refine ⟨_, rfl, ?_⟩; have n0_ := Aside0.mk (blk_below (g := gb181) (o := .cells #[.int .i64 a0_0, .slice (some ad183) l0_1.length c0_1, .slice A0_2 l0_2.length c0_2] 25 (0, 0)) (by (with_reducible repeat (first | refine blk_drewN ?_ _ | refine blk_drew ?_ | refine blk_alloc ?_ _)); refine blk_far ?_ NB181_184.out _; (with_reducible repeat (first | refine blk_drewN ?_ _ | refine blk_drew ?_ | refine blk_alloc ?_ _)); refine blk_far ?_ NB181_184.out _; (with_reducible repeat (first | refine blk_drewN ?_ _ | refine blk_drew ?_ | refine blk_alloc ?_ _)); exact BK181.out) hb); have n1_ := Aside0.mk (blk_below (g := gb184) (o := .cells #[.int .i64 ((rd_T64 l0_1 x34_2).f0), .slice A183_1 ((rd_T64 l0_1 x34_2).f1).length c183_1] 64 (0, 0)) (by (with_reducible repeat (first | refine blk_drewN ?_ _ | refine blk_drew ?_ | refine blk_alloc ?_ _)); refine blk_put (cs := #[.int .i64 ((rd_T64 l0_1 x34_2).f0), .slice none 0 0]) ?_ 1 _ rfl; (with_reducible repeat (first | refine blk_drewN ?_ _ | refine blk_drew ?_ | refine blk_alloc ?_ _)); refine blk_put (cs := #[.int .i64 0, .slice none 0 0]) ?_ 0 _ rfl; (with_reducible repeat (first | refine blk_drewN ?_ _ | refine blk_drew ?_ | refine blk_alloc ?_ _)); exact BK184.out) hb); have n2_ := Aside0.mk (below_step (by repeat (first | (with_reducible first | exact HB.out | apply below_alloc | apply pw_below_drewN | apply below_drew1 | refine below_set ?_ GE181.out | refine below_set ?_ GE184.out) | exact HB.out)) hb); clear BK181; clear BK184; clear HB; have BK181 := n0_; have BK184 := n1_; have HB := n2_; clear n0_ n1_ n2_; (try clear hb); (try clear hb2); (try clear hk); (try clear hi)))
          go_ret
          exact ⟨by first | rfl | (simp [errW_none, errW_some] <;> rfl) | (simp [*, errW_none, errW_some] <;> rfl), by repeat (first | (with_reducible first | exact HB.out | apply below_alloc | apply pw_below_drewN | apply below_drew1 | refine below_set ?_ GE181.out | refine below_set ?_ GE184.out) | exact HB.out)⟩
        ·rw [if_neg c19] at H
         exact absurd H (by simp)
       ·rw [if_neg c18] at H
        exact absurd H (by simp)
      ·rw [if_neg c17] at H
       have c17b0 : decide (x34_2 < (l0_1.length : Int)) = false := decide_eq_false c17
       clear c17
       have H' := Aside0.mk H
       clear H
       have hcz32_0 : wr.cell? ⟨gb181, 0, none⟩ = some (.int .i64 a0_0) := (blk_cell BK181.out 0).trans rfl
       have hcz32_1 : wr.cell? ⟨gb181, 1, none⟩ = some (.slice A0_1 l0_1.length c0_1) := (blk_cell BK181.out 1).trans rfl
       have hcz32_2 : wr.cell? ⟨gb181, 2, none⟩ = some (.slice A0_2 l0_2.length c0_2) := (blk_cell BK181.out 2).trans rfl
       have hfz32_0 := blk_frozen BK181.out 0
       have hfz32_1 := blk_frozen BK181.out 1
       have hfz32_2 := blk_frozen BK181.out 2
       go_wp2
       go_loopg [47] k2 (fun kq v47 w' => ∃ (x47_3 : Int), v47 = .int .i64 x47_3 ∧ Aside0 (footwayref15_Right.l1 kq l0_2 (l0_2.length : Int) x47_3 a0_0 l0_1 l0_2 = some r) ∧ Aside0 (kq ≤ k2) ∧ Aside0 (w'.heap[gb181]? = some (.cells #[.int .i64 a0_0, (.slice A0_1 l0_1.length c0_1), (.slice A0_2 l0_2.length c0_2)] 25 (0, 0))) ∧ Aside0 (Below w.heap.size w w'))
       case atStart => exact ⟨(0), (by first | rfl | (simp; done) | (simp [*]; done)), H', ⟨Nat.le_refl _⟩, ⟨by (with_reducible repeat (first | refine blk_drewN ?_ _ | refine blk_drew ?_ | refine blk_alloc ?_ _)); exact BK181.out⟩, ⟨by repeat (first | (with_reducible first | exact HB.out | apply below_alloc | apply pw_below_drewN | apply below_drew1 | refine below_set ?_ GE181.out) | exact HB.out)⟩⟩
       case round =>
        clear H'
        try clear c1
        try clear p1
        try clear q1
        try clear hx1
        try clear c2
        try clear p2
        try clear c4
        try clear c4b0
        try clear c5
        try clear c6
        try clear c6b0
        try clear p6
        try clear c8
        try clear c8b0
        try clear c8b1
        try clear c10
        try clear c10b0
        try clear c10b1
        try clear c15
        try clear c17
        try clear c17b0
        try clear c18
        try clear c18b0
        try clear p18
        try clear q18
        try clear hx18
        try clear c19
        try clear c19b0
        try clear c21
        try clear c22
        try clear c23
        try clear c28
        try clear hcz11_0
        try clear hcz11_1
        try clear hcz11_2
        try clear hcz13_0
        try clear hcz13_1
        try clear hcz13_2
        try clear hcz16_0
        try clear hcz16_1
        try clear hcz16_2
        try clear hcz24_0
        try clear hcz24_1
        try clear hcz25_0
        try clear hcz25_1
        try clear hcz25_2
        try clear hcz29_0
        try clear hcz29_1
        try clear hcz30_0
        try clear hcz30_1
        try clear hcz30_2
        try clear hcz32_0
        try clear hcz32_1
        try clear hcz32_2
        try clear hcz5_0
        try clear hcz5_1
        try clear hcz5_2
        try clear hcz7_0
        try clear hcz7_1
        try clear hcz7_2
        try clear hcz9_0
        try clear hcz9_1
        try clear hcz9_2
        try clear hfz11_0
        try clear hfz11_1
        try clear hfz11_2
        try clear hfz13_0
        try clear hfz13_1
        try clear hfz13_2
        try clear hfz16_0
        try clear hfz16_1
        try clear hfz16_2
        try clear hfz24_0
        try clear hfz24_1
        try clear hfz25_0
        try clear hfz25_1
        try clear hfz25_2
        try clear hfz29_0
        try clear hfz29_1
        try clear hfz30_0
        try clear hfz30_1
        try clear hfz30_2
        try clear hfz32_0
        try clear hfz32_1
        try clear hfz32_2
        try clear hfz5_0
        try clear hfz5_1
        try clear hfz5_2
        try clear hfz7_0
        try clear hfz7_1
        try clear hfz7_2
        try clear hfz9_0
        try clear hfz9_1
        try clear hfz9_2
        try clear hx183_0
        try clear hx183_1
        try clear p183
        try clear p2
        try clear q183
        obtain ⟨x47_3, rfl, HA, HK3, BK181, HB⟩ := hrel
        cases gk with
        | zero => exact absurd HA.out (by simp [footwayref15_Right.l1])
        | succ k3 =>
         have H := HA.out
         clear HA
         simp only [footwayref15_Right.l1] at H
         by_cases c33 : x47_3 < (l0_2.length : Int)
         ·rw [if_pos c33] at H
          have c33b0 : decide (x47_3 < (l0_2.length : Int)) = true := decide_eq_true c33
          clear c33
          by_cases c34 : 0 ≤ x47_3
          ·rw [if_pos c34] at H
           have c34b0 : decide (0 ≤ x47_3) = true := decide_eq_true c34
           clear c34
           by_cases c35 : x47_3 < (l0_2.length : Int)
           ·rw [if_pos c35] at H
            have c35b0 : decide (x47_3 < (l0_2.length : Int)) = true := decide_eq_true c35
            clear c35
            replace H := Option.bind_eq_some_iff.mp H
            obtain ⟨t188, A360, H⟩ := H
            replace H : (if t188 = true then (if ((rd_T91 l0_2 x47_3).f1) < 0 then (some false) else (if ((rd_T91 l0_2 x47_3).f1) ≥ a0_0 then (some false) else (footwayref15_Right.l1 k3 l0_2 (l0_2.length : Int) (wrap64 (x47_3 + 1)) a0_0 l0_1 l0_2))) else (some false)) = some r := H
            have A36 := Aside0.mk A360
            clear A360
            by_cases c37 : t188 = true
            ·subst c37
             have H1 : (if ((rd_T91 l0_2 x47_3).f1) < 0 then (some false) else (if ((rd_T91 l0_2 x47_3).f1) ≥ a0_0 then (some false) else (footwayref15_Right.l1 k3 l0_2 (l0_2.length : Int) (wrap64 (x47_3 + 1)) a0_0 l0_1 l0_2))) = some r := by rw [if_pos rfl] at H; exact H
             clear H
             have H := H1
             clear H1
             by_cases c38 : ((rd_T91 l0_2 x47_3).f1) < 0
             ·rw [if_pos c38] at H
              have c38b0 : decide (((rd_T91 l0_2 x47_3).f1) < 0) = true := decide_eq_true c38
              clear c38
              obtain rfl := Option.some.inj H
              have p186 : 0 ≤ (x47_3 : Int) := of_decide_eq_true (by first | (with_reducible assumption) | assumption)
              have q186 : x47_3 < (l0_2.length : Int) := of_decide_eq_true (by first | (with_reducible assumption) | assumption)
              obtain ⟨ad186, e186, hx186_0, hx186_1⟩ := at_T91 HR0_2.out x47_3 p186 q186
              cases e186
              replace hx186_0 := (HB.out.cell (World.block_lt_of_cell? w _ hx186_0)).trans hx186_0
              replace hx186_1 := (HB.out.cell (World.block_lt_of_cell? w _ hx186_1)).trans hx186_1
              replace p186 := eq_true p186
              replace q186 := eq_true q186
              go_wp2_with (first | ((with_reducible refine gate_dst (N := 6) rfl ?_); (try (refine gate_guard (by rfl) ?_; dsimp only)); refine box_event ?hg (N := 6) ?hd (cs := #[.int .i64 0, .int .i64 0]) (t := 91) ?hr ?_; (case hd => rfl); (case hg => rfl); (case hr => first | (go_simp; done) | (go_simp; rfl)); intro gb187 hg w39 hbox hb; have n0_ := Aside0.mk (blk_below (g := gb181) (o := .cells #[.int .i64 a0_0, .slice A0_1 l0_1.length c0_1, .slice (some ad186) l0_2.length c0_2] 25 (0, 0)) (by (with_reducible repeat (first | refine blk_drewN ?_ _ | refine blk_drew ?_ | refine blk_alloc ?_ _)); exact BK181.out) hb); have n1_ := Aside0.mk (below_step (by repeat (first | (with_reducible first | exact HB.out | apply below_alloc | apply pw_below_drewN | apply below_drew1 | refine below_set ?_ GE181.out) | exact HB.out)) hb); have n2_ := Aside0.mk (hbox); have n3_ := Aside0.mk ((by rw [hg]; exact (below_size (by repeat (first | (with_reducible first | exact HB.out | apply below_alloc | apply pw_below_drewN | apply below_drew1 | refine below_set ?_ GE181.out) | exact HB.out))) : w.heap.size ≤ gb187)); have n4_ := Aside0.mk ((by rw [hg]; exact (below_size (by repeat (first | (with_reducible first | exact HB.out | apply below_alloc | apply pw_below_drewN | apply below_drew1 | refine below_set ?_ GE181.out) | exact HB.out))) : w.heap.size ≤ gb187)); have n5_ := Aside0.mk ((by rw [hg]; exact Nat.ne_of_lt (blk_lt (g := gb181) (o := .cells #[.int .i64 a0_0, .slice A0_1 l0_1.length c0_1, .slice (some ad186) l0_2.length c0_2] 25 (0, 0)) (by (with_reducible repeat (first | refine blk_drewN ?_ _ | refine blk_drew ?_ | refine blk_alloc ?_ _)); exact BK181.out)) : gb181 ≠ gb187)); have n6_ := Aside0.mk ((by rw [hg]; exact Nat.ne_of_gt (blk_lt (g := gb181) (o := .cells #[.int .i64 a0_0, .slice A0_1 l0_1.length c0_1, .slice (some ad186) l0_2.length c0_2] 25 (0, 0)) (by (with_reducible repeat (first | refine blk_drewN ?_ _ | refine blk_drew ?_ | refine blk_alloc ?_ _)); exact BK181.out)) : gb187 ≠ gb181)); clear BK181; clear HB; have BK181 := n0_; have HB := n1_; have BK187 := n2_; have GW187 := n3_; have GE187 := n4_; have NB181_187 := n5_; have NB187_181 := n6_; clear n0_ n1_ n2_ n3_ n4_ n5_ n6_; clear hb hbox hg; have hnb40 := NB187_181.out; have hnc40 := NB181_187.out; have hcz41_0 : w39.cell? ⟨gb187, 0, none⟩ = some (.int .i64 0) := (blk_cell BK187.out 0).trans rfl; have hcz41_1 : w39.cell? ⟨gb187, 1, none⟩ = some (.int .i64 0) := (blk_cell BK187.out 1).trans rfl; have hfz41_0 := blk_frozen BK187.out 0; have hfz41_1 := blk_frozen BK187.out 1) | ((with_reducible refine gate_callee (f := 55) rfl ?_); refine goesL_ (some 53) rfl rfl Try.func55 (by kernel_rfl) rfl #[.int .i64 ((rd_T91 l0_2 x47_3).f0)] rfl (by (try simp only [List.map_toArray, List.map_cons, List.map_nil]); first | done | rfl | (simp only [List.length_drop, List.length_take]; rfl)) ?_; (with_reducible refine (footwayref08_Mac.calls ((rd_T91 l0_2 x47_3).f0) true _ A36.out).mono ?_); rintro e w' ⟨rfl, ⟨nd, rfl⟩⟩; refine ⟨_, rfl, ?_⟩))
              go_ret
              exact ⟨by first | rfl | (simp [errW_none, errW_some] <;> rfl) | (simp [*, errW_none, errW_some] <;> rfl), by repeat (first | (with_reducible first | exact HB.out | apply below_alloc | apply pw_below_drewN | apply below_drew1 | refine below_set ?_ GE181.out | refine below_set ?_ GE187.out) | exact HB.out)⟩
             ·rw [if_neg c38] at H
              have c38b0 : decide (((rd_T91 l0_2 x47_3).f1) < 0) = false := decide_eq_false c38
              clear c38
              by_cases c42 : ((rd_T91 l0_2 x47_3).f1) ≥ a0_0
              ·rw [if_pos c42] at H
               have c42b0 : decide (a0_0 ≤ ((rd_T91 l0_2 x47_3).f1)) = true := decide_eq_true c42
               clear c42
               obtain rfl := Option.some.inj H
               have p186 : 0 ≤ (x47_3 : Int) := of_decide_eq_true (by first | (with_reducible assumption) | assumption)
               have q186 : x47_3 < (l0_2.length : Int) := of_decide_eq_true (by first | (with_reducible assumption) | assumption)
               obtain ⟨ad186, e186, hx186_0, hx186_1⟩ := at_T91 HR0_2.out x47_3 p186 q186
               cases e186
               replace hx186_0 := (HB.out.cell (World.block_lt_of_cell? w _ hx186_0)).trans hx186_0
               replace hx186_1 := (HB.out.cell (World.block_lt_of_cell? w _ hx186_1)).trans hx186_1
               replace p186 := eq_true p186
               replace q186 := eq_true q186
               go_wp2_with (first | ((with_reducible refine gate_dst (N := 6) rfl ?_); (try (refine gate_guard (by rfl) ?_; dsimp only)); refine box_event ?hg (N := 6) ?hd (cs := #[.int .i64 0, .int .i64 0]) (t := 91) ?hr ?_; (case hd => rfl); (case hg => rfl); (case hr => first | (go_simp; done) | (go_simp; rfl)); intro gb187 hg w43 hbox hb; have n0_ := Aside0.mk (blk_below (g := gb181) (o := .cells #[.int .i64 a0_0, .slice A0_1 l0_1.length c0_1, .slice (some ad186) l0_2.length c0_2] 25 (0, 0)) (by (with_reducible repeat (first | refine blk_drewN ?_ _ | refine blk_drew ?_ | refine blk_alloc ?_ _)); exact BK181.out) hb); have n1_ := Aside0.mk (below_step (by repeat (first | (with_reducible first | exact HB.out | apply below_alloc | apply pw_below_drewN | apply below_drew1 | refine below_set ?_ GE181.out) | exact HB.out)) hb); have n2_ := Aside0.mk (hbox); have n3_ := Aside0.mk ((by rw [hg]; exact (below_size (by repeat (first | (with_reducible first | exact HB.out | apply below_alloc | apply pw_below_drewN | apply below_drew1 | refine below_set ?_ GE181.out) | exact HB.out))) : w.heap.size ≤ gb187)); have n4_ := Aside0.mk ((by rw [hg]; exact (below_size (by repeat (first | (with_reducible first | exact HB.out | apply below_alloc | apply pw_below_drewN | apply below_drew1 | refine below_set ?_ GE181.out) | exact HB.out))) : w.heap.size ≤ gb187)); have n5_ := Aside0.mk ((by rw [hg]; exact Nat.ne_of_lt (blk_lt (g := gb181) (o := .cells #[.int .i64 a0_0, .slice A0_1 l0_1.length c0_1, .slice (some ad186) l0_2.length c0_2] 25 (0, 0)) (by (with_reducible repeat (first | refine blk_drewN ?_ _ | refine blk_drew ?_ | refine blk_alloc ?_ _)); exact BK181.out)) : gb181 ≠ gb187)); have n6_ := Aside0.mk ((by rw [hg]; exact Nat.ne_of_gt (blk_lt (g := gb181) (o := .cells #[.int .i64 a0_0, .slice A0_1 l0_1.length c0_1, .slice (some ad186) l0_2.length c0_2] 25 (0, 0)) (by (with_reducible repeat (first | refine blk_drewN ?_ _ | refine blk_drew ?_ | refine blk_alloc ?_ _)); exact BK181.out)) : gb187 ≠ gb181)); clear BK181; clear HB; have BK181 := n0_; have HB := n1_; have BK187 := n2_; have GW187 := n3_; have GE187 := n4_; have NB181_187 := n5_; have NB187_181 := n6_; clear n0_ n1_ n2_ n3_ n4_ n5_ n6_; clear hb hbox hg; have hnb44 := NB187_181.out; have hnc44 := NB181_187.out; have hcz45_0 : w43.cell? ⟨gb187, 0, none⟩ = some (.int .i64 0) := (blk_cell BK187.out 0).trans rfl; have hcz45_1 : w43.cell? ⟨gb187, 1, none⟩ = some (.int .i64 0) := (blk_cell BK187.out 1).trans rfl; have hfz45_0 := blk_frozen BK187.out 0; have hfz45_1 := blk_frozen BK187.out 1) | ((with_reducible refine gate_callee (f := 55) rfl ?_); refine goesL_ (some 53) rfl rfl Try.func55 (by kernel_rfl) rfl #[.int .i64 ((rd_T91 l0_2 x47_3).f0)] rfl (by (try simp only [List.map_toArray, List.map_cons, List.map_nil]); first | done | rfl | (simp only [List.length_drop, List.length_take]; rfl)) ?_; (with_reducible refine (footwayref08_Mac.calls ((rd_T91 l0_2 x47_3).f0) true _ A36.out).mono ?_); rintro e w' ⟨rfl, ⟨nd, rfl⟩⟩; refine ⟨_, rfl, ?_⟩; have hcz46_0 : w43.cell? ⟨gb181, 0, none⟩ = some (.int .i64 a0_0) := (blk_cell BK181.out 0).trans rfl; have hcz46_1 : w43.cell? ⟨gb181, 1, none⟩ = some (.slice A0_1 l0_1.length c0_1) := (blk_cell BK181.out 1).trans rfl; have hcz46_2 : w43.cell? ⟨gb181, 2, none⟩ = some (.slice (some ad186) l0_2.length c0_2) := (blk_cell BK181.out 2).trans rfl; have hfz46_0 := blk_frozen BK181.out 0; have hfz46_1 := blk_frozen BK181.out 1; have hfz46_2 := blk_frozen BK181.out 2))
               go_ret
               exact ⟨by first | rfl | (simp [errW_none, errW_some] <;> rfl) | (simp [*, errW_none, errW_some] <;> rfl), by repeat (first | (with_reducible first | exact HB.out | apply below_alloc | apply pw_below_drewN | apply below_drew1 | refine below_set ?_ GE181.out | refine below_set ?_ GE187.out) | exact HB.out)⟩
              ·rw [if_neg c42] at H
               have c42b0 : decide (a0_0 ≤ ((rd_T91 l0_2 x47_3).f1)) = false := decide_eq_false c42
               clear c42
               have H' := Aside0.mk H
               clear H
               have p186 : 0 ≤ (x47_3 : Int) := of_decide_eq_true (by first | (with_reducible assumption) | assumption)
               have q186 : x47_3 < (l0_2.length : Int) := of_decide_eq_true (by first | (with_reducible assumption) | assumption)
               obtain ⟨ad186, e186, hx186_0, hx186_1⟩ := at_T91 HR0_2.out x47_3 p186 q186
               cases e186
               replace hx186_0 := (HB.out.cell (World.block_lt_of_cell? w _ hx186_0)).trans hx186_0
               replace hx186_1 := (HB.out.cell (World.block_lt_of_cell? w _ hx186_1)).trans hx186_1
               replace p186 := eq_true p186
               replace q186 := eq_true q186
               go_wp2_with (first | ((with_reducible refine gate_dst (N := 6) rfl ?_); (try (refine gate_guard (by rfl) ?_; dsimp only)); refine box_event ?hg (N := 6) ?hd (cs := #[.int .i64 0, .int .i64 0]) (t := 91) ?hr ?_; (case hd => rfl); (case hg => rfl); (case hr => first | (go_simp; done) | (go_simp; rfl)); intro gb187 hg w47 hbox hb; have n0_ := Aside0.mk (blk_below (g := gb181) (o := .cells #[.int .i64 a0_0, .slice A0_1 l0_1.length c0_1, .slice (some ad186) l0_2.length c0_2] 25 (0, 0)) (by (with_reducible repeat (first | refine blk_drewN ?_ _ | refine blk_drew ?_ | refine blk_alloc ?_ _)); exact BK181.out) hb); have n1_ := Aside0.mk (below_step (by repeat (first | (with_reducible first | exact HB.out | apply below_alloc | apply pw_below_drewN | apply below_drew1 | refine below_set ?_ GE181.out) | exact HB.out)) hb); have n2_ := Aside0.mk (hbox); have n3_ := Aside0.mk ((by rw [hg]; exact (below_size (by repeat (first | (with_reducible first | exact HB.out | apply below_alloc | apply pw_below_drewN | apply below_drew1 | refine below_set ?_ GE181.out) | exact HB.out))) : w.heap.size ≤ gb187)); have n4_ := Aside0.mk ((by rw [hg]; exact (below_size (by repeat (first | (with_reducible first | exact HB.out | apply below_alloc | apply pw_below_drewN | apply below_drew1 | refine below_set ?_ GE181.out) | exact HB.out))) : w.heap.size ≤ gb187)); have n5_ := Aside0.mk ((by rw [hg]; exact Nat.ne_of_lt (blk_lt (g := gb181) (o := .cells #[.int .i64 a0_0, .slice A0_1 l0_1.length c0_1, .slice (some ad186) l0_2.length c0_2] 25 (0, 0)) (by (with_reducible repeat (first | refine blk_drewN ?_ _ | refine blk_drew ?_ | refine blk_alloc ?_ _)); exact BK181.out)) : gb181 ≠ gb187)); have n6_ := Aside0.mk ((by rw [hg]; exact Nat.ne_of_gt (blk_lt (g := gb181) (o := .cells #[.int .i64 a0_0, .slice A0_1 l0_1.length c0_1, .slice (some ad186) l0_2.length c0_2] 25 (0, 0)) (by (with_reducible repeat (first | refine blk_drewN ?_ _ | refine blk_drew ?_ | refine blk_alloc ?_ _)); exact BK181.out)) : gb187 ≠ gb181)); clear BK181; clear HB; have BK181 := n0_; have HB := n1_; have BK187 := n2_; have GW187 := n3_; have GE187 := n4_; have NB181_187 := n5_; have NB187_181 := n6_; clear n0_ n1_ n2_ n3_ n4_ n5_ n6_; clear hb hbox hg; have hnb48 := NB187_181.out; have hnc48 := NB181_187.out; have hcz49_0 : w47.cell? ⟨gb187, 0, none⟩ = some (.int .i64 0) := (blk_cell BK187.out 0).trans rfl; have hcz49_1 : w47.cell? ⟨gb187, 1, none⟩ = some (.int .i64 0) := (blk_cell BK187.out 1).trans rfl; have hfz49_0 := blk_frozen BK187.out 0; have hfz49_1 := blk_frozen BK187.out 1) | ((with_reducible refine gate_callee (f := 55) rfl ?_); refine goesL_ (some 53) rfl rfl Try.func55 (by kernel_rfl) rfl #[.int .i64 ((rd_T91 l0_2 x47_3).f0)] rfl (by (try simp only [List.map_toArray, List.map_cons, List.map_nil]); first | done | rfl | (simp only [List.length_drop, List.length_take]; rfl)) ?_; (with_reducible refine (footwayref08_Mac.calls ((rd_T91 l0_2 x47_3).f0) true _ A36.out).mono ?_); rintro e w' ⟨rfl, ⟨nd, rfl⟩⟩; refine ⟨_, rfl, ?_⟩; have hcz50_0 : w47.cell? ⟨gb181, 0, none⟩ = some (.int .i64 a0_0) := (blk_cell BK181.out 0).trans rfl; have hcz50_1 : w47.cell? ⟨gb181, 1, none⟩ = some (.slice A0_1 l0_1.length c0_1) := (blk_cell BK181.out 1).trans rfl; have hcz50_2 : w47.cell? ⟨gb181, 2, none⟩ = some (.slice (some ad186) l0_2.length c0_2) := (blk_cell BK181.out 2).trans rfl; have hfz50_0 := blk_frozen BK181.out 0; have hfz50_1 := blk_frozen BK181.out 1; have hfz50_2 := blk_frozen BK181.out 2))
               go_roundg k3
               case measure => have := HJ1.out; have := HK2.out; have := HK3.out; omega
               case rel => exact ⟨(wrap64 (x47_3 + 1)), (by first | rfl | (simp; done) | (simp [*]; done)), H', ⟨by have := HJ1.out; have := HK2.out; have := HK3.out; omega⟩, ⟨by (with_reducible repeat (first | refine blk_drewN ?_ _ | refine blk_drew ?_ | refine blk_alloc ?_ _)); refine blk_far ?_ NB181_187.out _; (with_reducible repeat (first | refine blk_drewN ?_ _ | refine blk_drew ?_ | refine blk_alloc ?_ _)); refine blk_far ?_ NB181_187.out _; (with_reducible repeat (first | refine blk_drewN ?_ _ | refine blk_drew ?_ | refine blk_alloc ?_ _)); exact BK181.out⟩, ⟨by repeat (first | (with_reducible first | exact HB.out | apply below_alloc | apply pw_below_drewN | apply below_drew1 | refine below_set ?_ GE181.out | refine below_set ?_ GE187.out) | exact HB.out)⟩⟩
            ·replace c37 := Bool.eq_false_iff.mpr c37
             subst c37
             have H1 : (some false) = some r := by rw [if_neg (show ¬ (false = true) by decide)] at H; exact H
             clear H
             have H := H1
             clear H1
             obtain rfl := Option.some.inj H
             have p186 : 0 ≤ (x47_3 : Int) := of_decide_eq_true (by first | (with_reducible assumption) | assumption)
             have q186 : x47_3 < (l0_2.length : Int) := of_decide_eq_true (by first | (with_reducible assumption) | assumption)
             obtain ⟨ad186, e186, hx186_0, hx186_1⟩ := at_T91 HR0_2.out x47_3 p186 q186
             cases e186
             replace hx186_0 := (HB.out.cell (World.block_lt_of_cell? w _ hx186_0)).trans hx186_0
             replace hx186_1 := (HB.out.cell (World.block_lt_of_cell? w _ hx186_1)).trans hx186_1
             replace p186 := eq_true p186
             replace q186 := eq_true q186
             go_wp2_with (first | ((with_reducible refine gate_dst (N := 6) rfl ?_); (try (refine gate_guard (by rfl) ?_; dsimp only)); refine box_event ?hg (N := 6) ?hd (cs := #[.int .i64 0, .int .i64 0]) (t := 91) ?hr ?_; (case hd => rfl); (case hg => rfl); (case hr => first | (go_simp; done) | (go_simp; rfl)); intro gb187 hg w51 hbox hb; have n0_ := Aside0.mk (blk_below (g := gb181) (o := .cells #[.int .i64 a0_0, .slice A0_1 l0_1.length c0_1, .slice (some ad186) l0_2.length c0_2] 25 (0, 0)) (by (with_reducible repeat (first | refine blk_drewN ?_ _ | refine blk_drew ?_ | refine blk_alloc ?_ _)); exact BK181.out) hb); have n1_ := Aside0.mk (below_step (by repeat (first | (with_reducible first | exact HB.out | apply below_alloc | apply pw_below_drewN | apply below_drew1 | refine below_set ?_ GE181.out) | exact HB.out)) hb); have n2_ := Aside0.mk (hbox); have n3_ := Aside0.mk ((by rw [hg]; exact (below_size (by repeat (first | (with_reducible first | exact HB.out | apply below_alloc | apply pw_below_drewN | apply below_drew1 | refine below_set ?_ GE181.out) | exact HB.out))) : w.heap.size ≤ gb187)); have n4_ := Aside0.mk ((by rw [hg]; exact (below_size (by repeat (first | (with_reducible first | exact HB.out | apply below_alloc | apply pw_below_drewN | apply below_drew1 | refine below_set ?_ GE181.out) | exact HB.out))) : w.heap.size ≤ gb187)); have n5_ := Aside0.mk ((by rw [hg]; exact Nat.ne_of_lt (blk_lt (g := gb181) (o := .cells #[.int .i64 a0_0, .slice A0_1 l0_1.length c0_1, .slice (some ad186) l0_2.length c0_2] 25 (0, 0)) (by (with_reducible repeat (first | refine blk_drewN ?_ _ | refine blk_drew ?_ | refine blk_alloc ?_ _)); exact BK181.out)) : gb181 ≠ gb187)); have n6_ := Aside0.mk ((by rw [hg]; exact Nat.ne_of_gt (blk_lt (g := gb181) (o := .cells #[.int .i64 a0_0, .slice A0_1 l0_1.length c0_1, .slice (some ad186) l0_2.length c0_2] 25 (0, 0)) (by (with_reducible repeat (first | refine blk_drewN ?_ _ | refine blk_drew ?_ | refine blk_alloc ?_ _)); exact BK181.out)) : gb187 ≠ gb181)); clear BK181; clear HB; have BK181 := n0_; have HB := n1_; have BK187 := n2_; have GW187 := n3_; have GE187 := n4_; have NB181_187 := n5_; have NB187_181 := n6_; clear n0_ n1_ n2_ n3_ n4_ n5_ n6_; clear hb hbox hg; have hnb52 := NB187_181.out; have hnc52 := NB181_187.out; have hcz53_0 : w51.cell? ⟨gb187, 0, none⟩ = some (.int .i64 0) := (blk_cell BK187.out 0).trans rfl; have hcz53_1 : w51.cell? ⟨gb187, 1, none⟩ = some (.int .i64 0) := (blk_cell BK187.out 1).trans rfl; have hfz53_0 := blk_frozen BK187.out 0; have hfz53_1 := blk_frozen BK187.out 1) | ((with_reducible refine gate_callee (f := 55) rfl ?_); refine goesL_ (some 53) rfl rfl Try.func55 (by kernel_rfl) rfl #[.int .i64 ((rd_T91 l0_2 x47_3).f0)] rfl (by (try simp only [List.map_toArray, List.map_cons, List.map_nil]); first | done | rfl | (simp only [List.length_drop, List.length_take]; rfl)) ?_; (with_reducible refine (footwayref08_Mac.calls ((rd_T91 l0_2 x47_3).f0) false _ A36.out).mono ?_); rintro e w' ⟨rfl, ⟨nd, rfl⟩⟩; refine ⟨_, rfl, ?_⟩))
             go_ret
             exact ⟨by first | rfl | (simp [errW_none, errW_some] <;> rfl) | (simp [*, errW_none, errW_some] <;> rfl), by repeat (first | (with_reducible first | exact HB.out | apply below_alloc | apply pw_below_drewN | apply below_drew1 | refine below_set ?_ GE181.out | refine below_set ?_ GE187.out) | exact HB.out)⟩
           ·rw [if_neg c35] at H
            exact absurd H (by simp)
          ·rw [if_neg c34] at H
           exact absurd H (by simp)
         ·rw [if_neg c33] at H
          have c33b0 : decide (x47_3 < (l0_2.length : Int)) = false := decide_eq_false c33
          clear c33
          obtain rfl := Option.some.inj H
          go_wp2
          go_ret
          exact ⟨by first | rfl | (simp [errW_none, errW_some] <;> rfl) | (simp [*, errW_none, errW_some] <;> rfl), by repeat (first | (with_reducible first | exact HB.out | apply below_alloc | apply pw_below_drewN | apply below_drew1 | refine below_set ?_ GE181.out) | exact HB.out)⟩
end
end Go.Proofs.Ytjblfgagafmhcaa.K
