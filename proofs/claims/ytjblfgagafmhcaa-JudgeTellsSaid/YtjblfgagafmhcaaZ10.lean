/- Part 10 of the proof of one statement: what is written for it by hand and by a program of this seat's, over the given program's form. Conditions: none. -/
import Derived.Test.YtjblfgagafmhcaaZ7
import Derived.Test.YtjblfgagafmhcaaZ8
import Derived.Test.YtjblfgagafmhcaaZ9
set_option linter.unusedVariables false
set_option linter.unusedSimpArgs false
namespace Go.Proofs.Ytjblfgagafmhcaa.K
open Go.RowKit Go.Proofs.YtjblfgagafmhcaaW.PrintWords Go.Proofs.YtjblfgagafmhcaaW.PrintLast Go.Proofs.YtjblfgagafmhcaaW.PrintMore
attribute [local go_sem] max2_int min2_int max_two min_two max_three min_three max_four min_four   -- for this text's walks alone
set_option linter.unusedVariables false
set_option linter.unusedSimpArgs false
noncomputable section
def flood_Reach.l0 : Nat → List Int → List Int → Int → Int → Option (List Int × Int)
 | 0, _, _, _, _ => none
 | k + 1, x9, x10, x25, x26 => if x26 < x25 then (if 0 ≤ x26 then (if x26 < (x10.length : Int) then (if (rd x10 x26) ≥ 0 then (if x9.length < 17592186044416 then (flood_Reach.l0 k (x9 ++ [x26]) x10 x25 (wrap64 (x26 + 1))) else (none)) else (flood_Reach.l0 k x9 x10 x25 (wrap64 (x26 + 1)))) else (none)) else (none)) else (some (x9, 0))
def flood_Reach.f (k : Nat) (a0_0 : Int) (l0_1 : List (S64)) (l0_2 : List (S91)) (l1 : List (List Bool)) (a2 : Int) : Option (List Int × Int) := (flood_may.f a0_0 l0_1 l0_2 l1 (([a2] : List Int))).bind fun t280 => (if t280 = 0 then ((flood_steps.f a0_0 l0_1 l0_2 l1 a2).bind fun t281 => (flood_Reach.l0 k ([] : List Int) t281 a0_0 0)) else (some (([] : List Int), t280)))
theorem flood_Reach.mono_l : ∀ k, (∀ y0 y1 y2 y3, LeO (flood_Reach.l0 k y0 y1 y2 y3) (flood_Reach.l0 (k + 1) y0 y1 y2 y3))
 | 0 => fun _ _ _ _ r h => by simp [flood_Reach.l0] at h
 | k + 1 => by
  have ih0 := flood_Reach.mono_l k
  ·intro y0 y1 y2 y3
   unfold flood_Reach.l0
   repeat' first
   | (with_reducible exact ih0 _ _ _ _)
   | (with_reducible exact LeO.refl _)
   | (with_reducible exact LeO.none _)
   | (with_reducible refine LeO.ite ?_ ?_)
   | (with_reducible refine LeO.bind ?_ (fun _ => ?_))
   | exact ih0 _ _ _ _
   | exact LeO.none _
   | refine LeO.ite ?_ ?_
   | refine LeO.bind ?_ (fun _ => ?_)
theorem flood_Reach.mono : ∀ a0 a1 a2 a3 a4 k, LeO (flood_Reach.f k a0 a1 a2 a3 a4) (flood_Reach.f (k + 1) a0 a1 a2 a3 a4) := by
 intro a0 a1 a2 a3 a4 k
 have ih0 := flood_Reach.mono_l k
 unfold flood_Reach.f
 repeat' first
   | (with_reducible exact ih0 _ _ _ _)
   | (with_reducible exact LeO.refl _)
   | (with_reducible exact LeO.none _)
   | (with_reducible refine LeO.ite ?_ ?_)
   | (with_reducible refine LeO.bind ?_ (fun _ => ?_))
   | exact ih0 _ _ _ _
   | exact LeO.none _
   | refine LeO.ite ?_ ?_
   | refine LeO.bind ?_ (fun _ => ?_)
set_option maxHeartbeats 8000000 in
set_option maxRecDepth 100000 in
theorem flood_Reach.calls (k : Nat) (a0_0 : Int) (A0_1 : Option Addr) (c0_1 : Nat) (l0_1 : List (S64)) (A0_2 : Option Addr) (c0_2 : Nat) (l0_2 : List (S91)) (A1 : Option Addr) (c1 : Nat) (l1 : List (List Bool)) (a2 : Int) (r1 : List Int) (r2 : Int) (w : World) (hr0_1 : Kd.C k64 w A0_1 l0_1.length l0_1) (hc0_1 : l0_1.length ≤ c0_1) (hr0_2 : Kd.C k91 w A0_2 l0_2.length l0_2) (hc0_2 : l0_2.length ≤ c0_2) (hr1 : Kd.C (Kd.slice 4 Kd.bool) w A1 l1.length l1) (hc1 : l1.length ≤ c1) (h : flood_Reach.f k a0_0 l0_1 l0_2 l1 a2 = some (r1, r2)) :
  Calls Try.prog 42 #[.agg #[.int .i64 a0_0, .slice A0_1 l0_1.length c0_1, .slice A0_2 l0_2.length c0_2], .slice A1 l1.length c1, .int .i64 a2] w fun e w' => ∃ v0_ : Value, e = .returned (.tuple #[v0_, .int .i64 r2]) ∧ Kd.R (Kd.int .i64) 3 w' w.heap.size (fun _ => True) v0_ r1 ∧ Below w.heap.size w w' := by
 have hu25 := Try.underlying25
 have HR0_1 := Aside0.mk hr0_1
 have HC0_1 := Aside0.mk hc0_1
 clear hr0_1 hc0_1
 have HR0_2 := Aside0.mk hr0_2
 have HC0_2 := Aside0.mk hc0_2
 clear hr0_2 hc0_2
 have HR1 := Aside0.mk hr1
 have HC1 := Aside0.mk hc1
 clear hr1 hc1
 have HB := Aside0.mk (Below.refl w.heap.size w)
 have H : ((flood_may.f a0_0 l0_1 l0_2 l1 (([a2] : List Int))).bind fun t280 => (if t280 = 0 then ((flood_steps.f a0_0 l0_1 l0_2 l1 a2).bind fun t281 => (flood_Reach.l0 k ([] : List Int) t281 a0_0 0)) else (some (([] : List Int), t280)))) = some (r1, r2) := h
 clear h
 obtain ⟨y277, hy277⟩ : ∃ y_ : List Int, y_ = (([a2] : List Int)) := ⟨_, rfl⟩
 replace H : ((flood_may.f a0_0 l0_1 l0_2 l1 y277).bind fun t280 => (if t280 = 0 then ((flood_steps.f a0_0 l0_1 l0_2 l1 a2).bind fun t281 => (flood_Reach.l0 k ([] : List Int) t281 a0_0 0)) else (some (([] : List Int), t280)))) = some (r1, r2) := by first | (rw [hy277]; with_reducible exact H) | (have H2_ := (Option.bind_some _ _).symm.trans H; rw [hy277]; with_reducible exact H2_) | (have H2_ := (Option.bind_some _ _).symm.trans H; with_reducible exact H2_) | with_reducible exact H | (rw [hy277]; exact H) | exact H
 have Ny277 := Aside0.mk hy277
 clear hy277
 replace H := Option.bind_eq_some_iff.mp H
 obtain ⟨t280, A40, H⟩ := H
 replace H : (if t280 = 0 then ((flood_steps.f a0_0 l0_1 l0_2 l1 a2).bind fun t281 => (flood_Reach.l0 k ([] : List Int) t281 a0_0 0)) else (some (([] : List Int), t280))) = some (r1, r2) := H
 have A4 := Aside0.mk A40
 clear A40
 by_cases c5 : t280 = 0
 ·rw [if_pos c5] at H
  have c5b0 : (t280 == 0) = true := beq_iff_eq.mpr c5
  have c5b1 : (t280 != 0) = false := bne_eq_false_iff_eq.mpr c5
  clear c5
  replace H := Option.bind_eq_some_iff.mp H
  obtain ⟨t281, A60, H⟩ := H
  replace H : (flood_Reach.l0 k ([] : List Int) t281 a0_0 0) = some (r1, r2) := H
  have A6 := Aside0.mk A60
  clear A60
  have H' := Aside0.mk H
  clear H
  go_enter Try.func42, Try.ntmps42
  go_wp2_with (first | ((with_reducible refine gate_dst (N := 3) rfl ?_); refine box_event ?hg (N := 3) ?hd (cs := #[.int .i64 a0_0, .slice A0_1 l0_1.length c0_1, .slice A0_2 l0_2.length c0_2]) (t := 25) ?hr ?_; (case hd => rfl); (case hg => rfl); (case hr => first | (go_simp; done) | (go_simp; rfl)); intro gb276 hg w7 hbox hb; have n0_ := Aside0.mk (below_step (by repeat (first | (with_reducible first | exact HB.out | apply below_alloc | apply pw_below_drewN | apply below_drew1) | exact HB.out)) hb); have n1_ := Aside0.mk (hbox); have n2_ := Aside0.mk ((by rw [hg]; exact (below_size (by repeat (first | (with_reducible first | exact HB.out | apply below_alloc | apply pw_below_drewN | apply below_drew1) | exact HB.out))) : w.heap.size ≤ gb276)); have n3_ := Aside0.mk ((by rw [hg]; exact (below_size (by repeat (first | (with_reducible first | exact HB.out | apply below_alloc | apply pw_below_drewN | apply below_drew1) | exact HB.out))) : w.heap.size ≤ gb276)); clear HB; have HB := n0_; have BK276 := n1_; have GW276 := n2_; have GE276 := n3_; clear n0_ n1_ n2_ n3_; clear hb hbox hg; have hcz8_0 : w7.cell? ⟨gb276, 0, none⟩ = some (.int .i64 a0_0) := (blk_cell BK276.out 0).trans rfl; have hcz8_1 : w7.cell? ⟨gb276, 1, none⟩ = some (.slice A0_1 l0_1.length c0_1) := (blk_cell BK276.out 1).trans rfl; have hcz8_2 : w7.cell? ⟨gb276, 2, none⟩ = some (.slice A0_2 l0_2.length c0_2) := (blk_cell BK276.out 2).trans rfl; have hfz8_0 := blk_frozen BK276.out 0; have hfz8_1 := blk_frozen BK276.out 1; have hfz8_2 := blk_frozen BK276.out 2) | ((with_reducible refine gate_dst (N := 15) rfl ?_); refine Kd.R_lit (Kd.int .i64) _ 3 ?hg (N := 15) ?hd (xs := ([a2] : List Int)) (inner := [.int .i64 a2]) (ok := fun _ => True) (okp := fun _ => True) ?hr ?hp (fun _ hk => hk) trivial (Below.refl _ _) (Nat.le_refl _) (by simp) ?_; (case hd => rfl); (case hg => rfl); (case hr => first | (go_simp; done) | (go_simp; rfl)); (case hp => exact (Reps.one (show Kd.M (Kd.int .i64) _ _ _ a2 [.int .i64 a2] from rfl) (Reps.none _ _))); intro v278 w9 ho10 hb hg_ hnew_; clear hg_ hnew_; (first | rw [← Ny277.out] at ho10 | (simp only [Int.reduceToNat] at ho10; rw [← Ny277.out] at ho10)); have n0_ := Aside0.mk (Kd.R_lower ho10 (below_size (by repeat (first | (with_reducible first | exact HB.out | apply below_alloc | apply pw_below_drewN | apply below_drew1 | refine below_set ?_ GE276.out) | exact HB.out)))); have n1_ := Aside0.mk (blk_below (g := gb276) (o := .cells #[.int .i64 a0_0, .slice A0_1 l0_1.length c0_1, .slice A0_2 l0_2.length c0_2] 25 (0, 0)) (by (with_reducible repeat (first | refine blk_drewN ?_ _ | refine blk_drew ?_ | refine blk_alloc ?_ _)); exact BK276.out) hb); have n2_ := Aside0.mk (below_step (by repeat (first | (with_reducible first | exact HB.out | apply below_alloc | apply pw_below_drewN | apply below_drew1 | refine below_set ?_ GE276.out) | exact HB.out)) hb); clear BK276; clear HB; have HO279 := n0_; have BK276 := n1_; have HB := n2_; clear n0_ n1_ n2_; clear hb ho10; obtain ⟨Ao11, co11, eo11⟩ := Kd.R_slice HO279.out; subst eo11) | ((with_reducible refine gate_callee (f := 77) rfl ?_); refine goesL_ (some 16) rfl rfl Try.func77 (by kernel_rfl) rfl #[.agg #[.int .i64 a0_0, .slice A0_1 l0_1.length c0_1, .slice A0_2 l0_2.length c0_2], .slice A1 l1.length c1, .slice Ao11 y277.length co11] rfl (by (try simp only [List.map_toArray, List.map_cons, List.map_nil]); first | done | rfl | (simp only [List.length_drop, List.length_take]; rfl)) ?_; (with_reducible refine (flood_may.calls a0_0 _ _ l0_1 _ _ l0_2 _ _ l1 _ _ y277 t280 _ ?side1 ?side2 ?side3 ?side4 ?side5 ?side6 ?side7 ?side8 A4.out).mono ?_); (case side1 => repeat (first | exact (Kd.C_below HR0_1.out HB.out) | (with_reducible refine Kd.C_alloc ?_ _) | (with_reducible refine Kd.C_drewN ?_ _) | (with_reducible refine Kd.C_drew ?_))); (case side2 => exact HC0_1.out); (case side3 => repeat (first | exact (Kd.C_below HR0_2.out HB.out) | (with_reducible refine Kd.C_alloc ?_ _) | (with_reducible refine Kd.C_drewN ?_ _) | (with_reducible refine Kd.C_drew ?_))); (case side4 => exact HC0_2.out); (case side5 => repeat (first | exact (Kd.C_below HR1.out HB.out) | (with_reducible refine Kd.C_alloc ?_ _) | (with_reducible refine Kd.C_drewN ?_ _) | (with_reducible refine Kd.C_drew ?_))); (case side6 => exact HC1.out); (case side7 => repeat (first | exact (Kd.R_reads' HO279.out).2.2 | (with_reducible refine Kd.C_alloc ?_ _) | (with_reducible refine Kd.C_drewN ?_ _) | (with_reducible refine Kd.C_drew ?_))); (case side8 => exact (Kd.R_reads' HO279.out).2.1); rintro e w12 ⟨rfl, hb⟩; refine ⟨_, rfl, ?_⟩; have n0_ := Aside0.mk (Kd.R_below (by (with_reducible repeat (first | apply Kd.R_alloc | apply Kd.R_drewN | apply Kd.R_drew)); exact HO279.out) hb); have n1_ := Aside0.mk (blk_below (g := gb276) (o := .cells #[.int .i64 a0_0, .slice A0_1 l0_1.length c0_1, .slice A0_2 l0_2.length c0_2] 25 (0, 0)) (by (with_reducible repeat (first | refine blk_drewN ?_ _ | refine blk_drew ?_ | refine blk_alloc ?_ _)); exact BK276.out) hb); have n2_ := Aside0.mk (below_step (by repeat (first | (with_reducible first | exact HB.out | apply below_alloc | apply pw_below_drewN | apply below_drew1 | refine below_set ?_ GE276.out) | exact HB.out)) hb); clear HO279; clear BK276; clear HB; have HO279 := n0_; have BK276 := n1_; have HB := n2_; clear n0_ n1_ n2_; (try clear hb); (try clear hb2); (try clear hk); (try clear hi); have hcz13_0 : w12.cell? ⟨gb276, 0, none⟩ = some (.int .i64 a0_0) := (blk_cell BK276.out 0).trans rfl; have hcz13_1 : w12.cell? ⟨gb276, 1, none⟩ = some (.slice A0_1 l0_1.length c0_1) := (blk_cell BK276.out 1).trans rfl; have hcz13_2 : w12.cell? ⟨gb276, 2, none⟩ = some (.slice A0_2 l0_2.length c0_2) := (blk_cell BK276.out 2).trans rfl; have hfz13_0 := blk_frozen BK276.out 0; have hfz13_1 := blk_frozen BK276.out 1; have hfz13_2 := blk_frozen BK276.out 2) | ((with_reducible refine gate_callee (f := 78) rfl ?_); refine goesL_ (some 23) rfl rfl Try.func78 (by kernel_rfl) rfl #[.agg #[.int .i64 a0_0, .slice A0_1 l0_1.length c0_1, .slice A0_2 l0_2.length c0_2], .slice A1 l1.length c1, .int .i64 a2] rfl (by (try simp only [List.map_toArray, List.map_cons, List.map_nil]); first | done | rfl | (simp only [List.length_drop, List.length_take]; rfl)) ?_; (with_reducible refine (flood_steps.calls a0_0 _ _ l0_1 _ _ l0_2 _ _ l1 a2 t281 _ ?side1 ?side2 ?side3 ?side4 ?side5 ?side6 A6.out).mono ?_); (case side1 => repeat (first | exact (Kd.C_below HR0_1.out HB.out) | (with_reducible refine Kd.C_alloc ?_ _) | (with_reducible refine Kd.C_drewN ?_ _) | (with_reducible refine Kd.C_drew ?_))); (case side2 => exact HC0_1.out); (case side3 => repeat (first | exact (Kd.C_below HR0_2.out HB.out) | (with_reducible refine Kd.C_alloc ?_ _) | (with_reducible refine Kd.C_drewN ?_ _) | (with_reducible refine Kd.C_drew ?_))); (case side4 => exact HC0_2.out); (case side5 => repeat (first | exact (Kd.C_below HR1.out HB.out) | (with_reducible refine Kd.C_alloc ?_ _) | (with_reducible refine Kd.C_drewN ?_ _) | (with_reducible refine Kd.C_drew ?_))); (case side6 => exact HC1.out); rintro e w14 ⟨v282, rfl, ho0, hb⟩; refine ⟨_, rfl, ?_⟩; have n0_ := Aside0.mk (Kd.R_elder' (by (with_reducible repeat (first | apply Kd.R_alloc | apply Kd.R_drewN | apply Kd.R_drew)); exact HO279.out) (Kd.R_base ho0) hb); have n1_ := Aside0.mk (Kd.R_lower (Kd.R_new' ho0 (Kd.R_lt (by (with_reducible repeat (first | apply Kd.R_alloc | apply Kd.R_drewN | apply Kd.R_drew)); exact HO279.out))) (below_size (by repeat (first | (with_reducible first | exact HB.out | apply below_alloc | apply pw_below_drewN | apply below_drew1 | refine below_set ?_ GE276.out) | exact HB.out)))); have n2_ := Aside0.mk (blk_below (g := gb276) (o := .cells #[.int .i64 a0_0, .slice A0_1 l0_1.length c0_1, .slice A0_2 l0_2.length c0_2] 25 (0, 0)) (by (with_reducible repeat (first | refine blk_drewN ?_ _ | refine blk_drew ?_ | refine blk_alloc ?_ _)); exact BK276.out) hb); have n3_ := Aside0.mk (below_step (by repeat (first | (with_reducible first | exact HB.out | apply below_alloc | apply pw_below_drewN | apply below_drew1 | refine below_set ?_ GE276.out) | exact HB.out)) hb); clear HO279; clear BK276; clear HB; have HO279 := n0_; have HO283 := n1_; have BK276 := n2_; have HB := n3_; clear n0_ n1_ n2_ n3_; (try clear hb); (try clear hb2); (try clear hk); (try clear hi); (try clear ho0); have hcz15_0 : w14.cell? ⟨gb276, 0, none⟩ = some (.int .i64 a0_0) := (blk_cell BK276.out 0).trans rfl; have hcz15_1 : w14.cell? ⟨gb276, 1, none⟩ = some (.slice A0_1 l0_1.length c0_1) := (blk_cell BK276.out 1).trans rfl; have hcz15_2 : w14.cell? ⟨gb276, 2, none⟩ = some (.slice A0_2 l0_2.length c0_2) := (blk_cell BK276.out 2).trans rfl; have hfz15_0 := blk_frozen BK276.out 0; have hfz15_1 := blk_frozen BK276.out 1; have hfz15_2 := blk_frozen BK276.out 2))
  go_loopg [9, 26] k (fun kq v9 v26 w' => ∃ (x9_1 : List Int) (x26_1 : Int), v26 = .int .i64 x26_1 ∧ Aside0 (flood_Reach.l0 kq x9_1 t281 a0_0 x26_1 = some (r1, r2)) ∧ Aside0 (kq ≤ k) ∧ Aside0 (Kd.R (Kd.int .i64) 3 w' w.heap.size (fun k_ => some k_ ≠ (v282 : Value).ownBlock) v9 x9_1) ∧ Aside0 (Kd.R (Kd.int .i64) 3 w' w.heap.size (fun k_ => some k_ ≠ (v9 : Value).ownBlock) v282 t281) ∧ Aside0 (w'.heap[gb276]? = some (.cells #[.int .i64 a0_0, (.slice A0_1 l0_1.length c0_1), (.slice A0_2 l0_2.length c0_2)] 25 (0, 0))) ∧ Aside0 (Below w.heap.size w w'))
  case atStart => exact ⟨(([] : List Int)), (0), (by first | rfl | (simp; done) | (simp [*]; done)), H', ⟨Nat.le_refl _⟩, ⟨by first | exact Kd.R_nil _ _ _ _ _ | exact Kd.N_nil _ _ _ _ _ | exact Kd.V_nil _ _ _ _ _ | exact Kd.Q_nil _ _ _ _ _ | exact Kd.S_nil _ _ _ _ _⟩, ⟨by (with_reducible repeat (first | apply Kd.R_alloc | apply Kd.R_drewN | apply Kd.R_drew)); exact Kd.R_mono HO283.out (fun _ hk => (by simp [Value.ownBlock]))⟩, ⟨by (with_reducible repeat (first | refine blk_drewN ?_ _ | refine blk_drew ?_ | refine blk_alloc ?_ _)); exact BK276.out⟩, ⟨by repeat (first | (with_reducible first | exact HB.out | apply below_alloc | apply pw_below_drewN | apply below_drew1 | refine below_set ?_ GE276.out) | exact HB.out)⟩⟩
  case round =>
   clear H'
   try clear c1
   try clear p2
   try clear c4
   try clear c5
   try clear c5b0
   try clear c5b1
   try clear c7
   try clear hcz13_0
   try clear hcz13_1
   try clear hcz13_2
   try clear hcz15_0
   try clear hcz15_1
   try clear hcz15_2
   try clear hcz8_0
   try clear hcz8_1
   try clear hcz8_2
   try clear hfz13_0
   try clear hfz13_1
   try clear hfz13_2
   try clear hfz15_0
   try clear hfz15_1
   try clear hfz15_2
   try clear hfz8_0
   try clear hfz8_1
   try clear hfz8_2
   obtain ⟨x9_1, x26_1, rfl, HA, HK1, HO_9, HO_10, BK276, HB⟩ := hrel
   cases gk with
   | zero => exact absurd HA.out (by simp [flood_Reach.l0])
   | succ k1 =>
    have H := HA.out
    clear HA
    simp only [flood_Reach.l0] at H
    by_cases c16 : x26_1 < a0_0
    ·rw [if_pos c16] at H
     have c16b0 : decide (x26_1 < a0_0) = true := decide_eq_true c16
     clear c16
     by_cases c17 : 0 ≤ x26_1
     ·rw [if_pos c17] at H
      have c17b0 : decide (0 ≤ x26_1) = true := decide_eq_true c17
      clear c17
      by_cases c18 : x26_1 < (t281.length : Int)
      ·rw [if_pos c18] at H
       have c18b0 : decide (x26_1 < (t281.length : Int)) = true := decide_eq_true c18
       clear c18
       by_cases c19 : (rd t281 x26_1) ≥ 0
       ·rw [if_pos c19] at H
        have c19b0 : decide (0 ≤ (rd t281 x26_1)) = true := decide_eq_true c19
        clear c19
        by_cases c20 : x9_1.length < 17592186044416
        ·rw [if_pos c20] at H
         have LMc20 := Aside0.mk c20
         clear c20
         obtain ⟨y285, hy285⟩ : ∃ y_ : List Int, y_ = (x9_1 ++ [x26_1]) := ⟨_, rfl⟩
         replace H : (flood_Reach.l0 k1 y285 t281 a0_0 (wrap64 (x26_1 + 1))) = some (r1, r2) := by first | (rw [hy285]; with_reducible exact H) | (have H2_ := (Option.bind_some _ _).symm.trans H; rw [hy285]; with_reducible exact H2_) | (have H2_ := (Option.bind_some _ _).symm.trans H; with_reducible exact H2_) | with_reducible exact H | (rw [hy285]; exact H) | exact H
         have Ny285 := Aside0.mk hy285
         clear hy285
         have H' := Aside0.mk H
         clear H
         obtain ⟨Ao21, co21, eo21⟩ := Kd.R_slice HO_10.out
         subst eo21
         have p284 : 0 ≤ (x26_1 : Int) := of_decide_eq_true (by first | (with_reducible assumption) | assumption)
         have q284 : x26_1 < (t281.length : Int) := of_decide_eq_true (by first | (with_reducible assumption) | assumption)
         obtain ⟨ad284, e284, hx284_0⟩ := Kd.at_int (Kd.R_reads' HO_10.out).2.2 x26_1 p284 q284
         cases e284
         replace p284 := eq_true p284
         replace q284 := eq_true q284
         go_wp2_with (first | ((with_reducible refine gate_builtin (b := .append) (xs := #[.tmp 34, .tmp 36]) rfl ?_); at_builtin; refine Kd.R_append (Kd.int .i64) (w0 := w) w.heap.size rfl (.tmp 34) (.tmp 36) 31 3 (.int .i64 0) 8 rfl Try.underlying31 info3 rfl (by decide) (by omega) u9 x9_1 x26_1 [.int .i64 x26_1] (fun k_ => some k_ ≠ (.slice (some ad284) t281.length co21 : Value).ownBlock) (fun _ => False) rfl rfl ?aP (fun _ hk => hk.elim) ?aF ?aO ?aB ?aS ?aL ?_; (case aP => exact rfl); (case aB => exact (by repeat (first | (with_reducible first | exact HB.out | apply below_alloc | apply pw_below_drewN | apply below_drew1 | refine below_set ?_ GE276.out) | exact HB.out))); (case aF => exact (fun k_ hk => Kd.fresh' (Kd.R_lt (by (with_reducible repeat (first | apply Kd.R_alloc | apply Kd.R_drewN | apply Kd.R_drew)); exact HO_10.out)) k_ hk)); (case aO => exact (by (with_reducible repeat (first | apply Kd.R_alloc | apply Kd.R_drewN | apply Kd.R_drew)); exact HO_9.out)); (case aS => exact (below_size (by repeat (first | (with_reducible first | exact HB.out | apply below_alloc | apply pw_below_drewN | apply below_drew1 | refine below_set ?_ GE276.out) | exact HB.out)))); (case aL => have := LMc20.out; omega); intro v286 w22 ho hb hg hat; rw [← Ny285.out] at ho; have n0_ := Aside0.mk (Kd.R_after (ok := (fun _ => True)) (by (with_reducible repeat (first | apply Kd.R_alloc | apply Kd.R_drewN | apply Kd.R_drew)); exact Kd.R_mono HO_10.out (fun _ hk => ⟨trivial, hk⟩)) hg hat); have n1_ := Aside0.mk (blk_grown (g := gb276) (o := .cells #[.int .i64 a0_0, .slice A0_1 l0_1.length c0_1, .slice A0_2 l0_2.length c0_2] 25 (0, 0)) (by (with_reducible repeat (first | refine blk_drewN ?_ _ | refine blk_drew ?_ | refine blk_alloc ?_ _)); exact BK276.out) hg (Kd.R_ne HO_9.out BK276.out (by decide))); have n2_ := Aside0.mk (hb); have n3_ := Aside0.mk (ho); clear HO_10; clear BK276; clear HB; clear HO_9; have HO_10 := n0_; have BK276 := n1_; have HB := n2_; have HO287 := n3_; clear n0_ n1_ n2_ n3_; clear ho hb hg hat))
         go_roundg k1
         case measure => have := HK1.out; omega
         case rel => exact ⟨(y285), (wrap64 (x26_1 + 1)), (by first | rfl | (simp; done) | (simp [*]; done)), H', ⟨by have := HK1.out; omega⟩, ⟨by (with_reducible repeat (first | apply Kd.R_alloc | apply Kd.R_drewN | apply Kd.R_drew)); exact HO287.out⟩, ⟨by (with_reducible repeat (first | apply Kd.R_alloc | apply Kd.R_drewN | apply Kd.R_drew)); exact Kd.R_mono HO_10.out (fun _ hk => hk.2)⟩, ⟨by (with_reducible repeat (first | refine blk_drewN ?_ _ | refine blk_drew ?_ | refine blk_alloc ?_ _)); exact BK276.out⟩, ⟨by repeat (first | (with_reducible first | exact HB.out | apply below_alloc | apply pw_below_drewN | apply below_drew1 | refine below_set ?_ GE276.out) | exact HB.out)⟩⟩
        ·rw [if_neg c20] at H
         exact absurd H (by simp)
       ·rw [if_neg c19] at H
        have c19b0 : decide (0 ≤ (rd t281 x26_1)) = false := decide_eq_false c19
        clear c19
        have H' := Aside0.mk H
        clear H
        obtain ⟨Ao23, co23, eo23⟩ := Kd.R_slice HO_10.out
        subst eo23
        have p284 : 0 ≤ (x26_1 : Int) := of_decide_eq_true (by first | (with_reducible assumption) | assumption)
        have q284 : x26_1 < (t281.length : Int) := of_decide_eq_true (by first | (with_reducible assumption) | assumption)
        obtain ⟨ad284, e284, hx284_0⟩ := Kd.at_int (Kd.R_reads' HO_10.out).2.2 x26_1 p284 q284
        cases e284
        replace p284 := eq_true p284
        replace q284 := eq_true q284
        go_wp2
        go_roundg k1
        case measure => have := HK1.out; omega
        case rel => exact ⟨(x9_1), (wrap64 (x26_1 + 1)), (by first | rfl | (simp; done) | (simp [*]; done)), H', ⟨by have := HK1.out; omega⟩, ⟨by (with_reducible repeat (first | apply Kd.R_alloc | apply Kd.R_drewN | apply Kd.R_drew)); exact HO_9.out⟩, ⟨by (with_reducible repeat (first | apply Kd.R_alloc | apply Kd.R_drewN | apply Kd.R_drew)); exact HO_10.out⟩, ⟨by (with_reducible repeat (first | refine blk_drewN ?_ _ | refine blk_drew ?_ | refine blk_alloc ?_ _)); exact BK276.out⟩, ⟨by repeat (first | (with_reducible first | exact HB.out | apply below_alloc | apply pw_below_drewN | apply below_drew1 | refine below_set ?_ GE276.out) | exact HB.out)⟩⟩
      ·rw [if_neg c18] at H
       exact absurd H (by simp)
     ·rw [if_neg c17] at H
      exact absurd H (by simp)
    ·rw [if_neg c16] at H
     have c16b0 : decide (x26_1 < a0_0) = false := decide_eq_false c16
     clear c16
     simp only [Option.some.injEq, Prod.mk.injEq] at H
     obtain ⟨rfl, rfl⟩ := H
     go_wp2
     go_ret2
     exact ⟨_, by first | rfl | (simp [errW_none, errW_some] <;> rfl) | (simp [*, errW_none, errW_some] <;> rfl), by (with_reducible repeat (first | apply Kd.R_alloc | apply Kd.R_drewN | apply Kd.R_drew)); exact Kd.R_mono HO_9.out (fun _ hk => trivial), by repeat (first | (with_reducible first | exact HB.out | apply below_alloc | apply pw_below_drewN | apply below_drew1 | refine below_set ?_ GE276.out) | exact HB.out)⟩
 ·rw [if_neg c5] at H
  have c5b0 : (t280 == 0) = false := beq_eq_false_iff_ne.mpr c5
  have c5b1 : (t280 != 0) = true := bne_iff_ne.mpr c5
  simp only [Option.some.injEq, Prod.mk.injEq] at H
  obtain ⟨rfl, rfl⟩ := H
  go_enter Try.func42, Try.ntmps42
  go_wp2_with (first | ((with_reducible refine gate_dst (N := 3) rfl ?_); refine box_event ?hg (N := 3) ?hd (cs := #[.int .i64 a0_0, .slice A0_1 l0_1.length c0_1, .slice A0_2 l0_2.length c0_2]) (t := 25) ?hr ?_; (case hd => rfl); (case hg => rfl); (case hr => first | (go_simp; done) | (go_simp; rfl)); intro gb276 hg w24 hbox hb; have n0_ := Aside0.mk (below_step (by repeat (first | (with_reducible first | exact HB.out | apply below_alloc | apply pw_below_drewN | apply below_drew1) | exact HB.out)) hb); have n1_ := Aside0.mk (hbox); have n2_ := Aside0.mk ((by rw [hg]; exact (below_size (by repeat (first | (with_reducible first | exact HB.out | apply below_alloc | apply pw_below_drewN | apply below_drew1) | exact HB.out))) : w.heap.size ≤ gb276)); have n3_ := Aside0.mk ((by rw [hg]; exact (below_size (by repeat (first | (with_reducible first | exact HB.out | apply below_alloc | apply pw_below_drewN | apply below_drew1) | exact HB.out))) : w.heap.size ≤ gb276)); clear HB; have HB := n0_; have BK276 := n1_; have GW276 := n2_; have GE276 := n3_; clear n0_ n1_ n2_ n3_; clear hb hbox hg; have hcz25_0 : w24.cell? ⟨gb276, 0, none⟩ = some (.int .i64 a0_0) := (blk_cell BK276.out 0).trans rfl; have hcz25_1 : w24.cell? ⟨gb276, 1, none⟩ = some (.slice A0_1 l0_1.length c0_1) := (blk_cell BK276.out 1).trans rfl; have hcz25_2 : w24.cell? ⟨gb276, 2, none⟩ = some (.slice A0_2 l0_2.length c0_2) := (blk_cell BK276.out 2).trans rfl; have hfz25_0 := blk_frozen BK276.out 0; have hfz25_1 := blk_frozen BK276.out 1; have hfz25_2 := blk_frozen BK276.out 2) | ((with_reducible refine gate_dst (N := 15) rfl ?_); refine Kd.R_lit (Kd.int .i64) _ 3 ?hg (N := 15) ?hd (xs := ([a2] : List Int)) (inner := [.int .i64 a2]) (ok := fun _ => True) (okp := fun _ => True) ?hr ?hp (fun _ hk => hk) trivial (Below.refl _ _) (Nat.le_refl _) (by simp) ?_; (case hd => rfl); (case hg => rfl); (case hr => first | (go_simp; done) | (go_simp; rfl)); (case hp => exact (Reps.one (show Kd.M (Kd.int .i64) _ _ _ a2 [.int .i64 a2] from rfl) (Reps.none _ _))); intro v278 w26 ho27 hb hg_ hnew_; clear hg_ hnew_; (first | rw [← Ny277.out] at ho27 | (simp only [Int.reduceToNat] at ho27; rw [← Ny277.out] at ho27)); have n0_ := Aside0.mk (Kd.R_lower ho27 (below_size (by repeat (first | (with_reducible first | exact HB.out | apply below_alloc | apply pw_below_drewN | apply below_drew1 | refine below_set ?_ GE276.out) | exact HB.out)))); have n1_ := Aside0.mk (blk_below (g := gb276) (o := .cells #[.int .i64 a0_0, .slice A0_1 l0_1.length c0_1, .slice A0_2 l0_2.length c0_2] 25 (0, 0)) (by (with_reducible repeat (first | refine blk_drewN ?_ _ | refine blk_drew ?_ | refine blk_alloc ?_ _)); exact BK276.out) hb); have n2_ := Aside0.mk (below_step (by repeat (first | (with_reducible first | exact HB.out | apply below_alloc | apply pw_below_drewN | apply below_drew1 | refine below_set ?_ GE276.out) | exact HB.out)) hb); clear BK276; clear HB; have HO279 := n0_; have BK276 := n1_; have HB := n2_; clear n0_ n1_ n2_; clear hb ho27; obtain ⟨Ao28, co28, eo28⟩ := Kd.R_slice HO279.out; subst eo28) | ((with_reducible refine gate_callee (f := 77) rfl ?_); refine goesL_ (some 16) rfl rfl Try.func77 (by kernel_rfl) rfl #[.agg #[.int .i64 a0_0, .slice A0_1 l0_1.length c0_1, .slice A0_2 l0_2.length c0_2], .slice A1 l1.length c1, .slice Ao28 y277.length co28] rfl (by (try simp only [List.map_toArray, List.map_cons, List.map_nil]); first | done | rfl | (simp only [List.length_drop, List.length_take]; rfl)) ?_; (with_reducible refine (flood_may.calls a0_0 _ _ l0_1 _ _ l0_2 _ _ l1 _ _ y277 t280 _ ?side1 ?side2 ?side3 ?side4 ?side5 ?side6 ?side7 ?side8 A4.out).mono ?_); (case side1 => repeat (first | exact (Kd.C_below HR0_1.out HB.out) | (with_reducible refine Kd.C_alloc ?_ _) | (with_reducible refine Kd.C_drewN ?_ _) | (with_reducible refine Kd.C_drew ?_))); (case side2 => exact HC0_1.out); (case side3 => repeat (first | exact (Kd.C_below HR0_2.out HB.out) | (with_reducible refine Kd.C_alloc ?_ _) | (with_reducible refine Kd.C_drewN ?_ _) | (with_reducible refine Kd.C_drew ?_))); (case side4 => exact HC0_2.out); (case side5 => repeat (first | exact (Kd.C_below HR1.out HB.out) | (with_reducible refine Kd.C_alloc ?_ _) | (with_reducible refine Kd.C_drewN ?_ _) | (with_reducible refine Kd.C_drew ?_))); (case side6 => exact HC1.out); (case side7 => repeat (first | exact (Kd.R_reads' HO279.out).2.2 | (with_reducible refine Kd.C_alloc ?_ _) | (with_reducible refine Kd.C_drewN ?_ _) | (with_reducible refine Kd.C_drew ?_))); (case side8 => exact (Kd.R_reads' HO279.out).2.1); rintro e w29 ⟨rfl, hb⟩; refine ⟨_, rfl, ?_⟩; have n0_ := Aside0.mk (Kd.R_below (by (with_reducible repeat (first | apply Kd.R_alloc | apply Kd.R_drewN | apply Kd.R_drew)); exact HO279.out) hb); have n1_ := Aside0.mk (blk_below (g := gb276) (o := .cells #[.int .i64 a0_0, .slice A0_1 l0_1.length c0_1, .slice A0_2 l0_2.length c0_2] 25 (0, 0)) (by (with_reducible repeat (first | refine blk_drewN ?_ _ | refine blk_drew ?_ | refine blk_alloc ?_ _)); exact BK276.out) hb); have n2_ := Aside0.mk (below_step (by repeat (first | (with_reducible first | exact HB.out | apply below_alloc | apply pw_below_drewN | apply below_drew1 | refine below_set ?_ GE276.out) | exact HB.out)) hb); clear HO279; clear BK276; clear HB; have HO279 := n0_; have BK276 := n1_; have HB := n2_; clear n0_ n1_ n2_; (try clear hb); (try clear hb2); (try clear hk); (try clear hi)))
  go_ret2
  exact ⟨_, by first | rfl | (simp [errW_none, errW_some] <;> rfl) | (simp [*, errW_none, errW_some] <;> rfl), by first | exact Kd.R_nil _ _ _ _ _ | exact Kd.N_nil _ _ _ _ _ | exact Kd.V_nil _ _ _ _ _ | exact Kd.Q_nil _ _ _ _ _ | exact Kd.S_nil _ _ _ _ _, by repeat (first | (with_reducible first | exact HB.out | apply below_alloc | apply pw_below_drewN | apply below_drew1 | refine below_set ?_ GE276.out) | exact HB.out)⟩
end
end Go.Proofs.Ytjblfgagafmhcaa.K
namespace Go.Proofs.Ytjblfgagafmhcaa.Fw
open Go.RowKit
open Go.Proofs.YtjblfgagafmhcaaW.PrintWords (Kd)
def encS (x : ByteArray) : Value := .string x
def okS (x : ByteArray) : Prop := x.size ≤ 9223372036854775807
theorem keyS {P : Program} {k : TypeId} (hk : P.underlying k = some .string) : KeyOk P k encS okS where
  law := Go.Maps.string_keyed hk
  of x hx := ⟨_, Go.WideMaps.keyOf_string_mk hk (by unfold okS at hx; unfold maxLen; omega)⟩
  inj x y h := by simpa [encS] using h
def strayFrom (R : Int → List Int) (all : List Copy) : List Copy → Nat → Int
  | [], _ => -1
  | c :: cs, k => if ((R (firstSeg all c.raw)).any fun y => decide (y = c.seg)) = true then strayFrom R all cs (k + 1) else (k : Int)
def SlX (mb : Nat) (w : World) (A : Option Addr) (c : Nat) (xs : List Int) : Prop := ∀ W : World, w.heap.size ≤ W.heap.size → (∀ k, k < w.heap.size → k ≠ mb → W.heap[k]? = w.heap[k]?) → Sl rInt W A c xs
theorem SlX.now {mb : Nat} {w : World} {A : Option Addr} {c : Nat} {xs : List Int} (h : SlX mb w A c xs) : Sl rInt w A c xs := h w (Nat.le_refl _) fun _ _ _ => rfl
theorem SlX.step {mb : Nat} {w w1 : World} {A : Option Addr} {c : Nat} {xs : List Int} (h : SlX mb w A c xs) (hs : w.heap.size ≤ w1.heap.size) (hk : ∀ k, k < w.heap.size → k ≠ mb → w1.heap[k]? = w.heap[k]?) : SlX mb w1 A c xs :=
  fun W h1 h2 => h W (Nat.le_trans hs h1) fun k h3 h4 => (h2 k (Nat.lt_of_lt_of_le h3 hs) h4).trans (hk k h3 h4)
theorem SlX.below {mb : Nat} {w w1 : World} {A : Option Addr} {c : Nat} {xs : List Int} (h : SlX mb w A c xs) (hb : Below w.heap.size w w1) : SlX mb w1 A c xs := h.step hb.size fun k hk _ => hb.block k hk
theorem SlX.grown {mb : Nat} {w w1 : World} {A : Option Addr} {c : Nat} {xs : List Int} (h : SlX mb w A c xs) (hg : w.grownBy w1 (some mb)) : SlX mb w1 A c xs := h.step hg.size fun k hk hn => hg.block k hk fun e => hn (Option.some.inj e)
theorem SlX.of_R {mb : Nat} {w : World} {e base : Nat} {A : Option Addr} {n c : Nat} {xs : List Int} (h : Kd.R (Kd.int .i64) e w base (fun _ => True) (.slice A n c) xs) (hb : mb < base) (hx : ∀ x ∈ xs, int64 x) : SlX mb w A c xs := fun W hs hk => by
  have h2 := Kd.R_move (Kd.R_bound h) (w1 := W) fun k ⟨_, h3, h4, _⟩ => hk k h4 (by omega)
  obtain ⟨A', c', e', hl, hC⟩ := Kd.R_reads h2
  injection e' with e1 e2 e3
  subst e1; subst e3
  exact slInt hC hl hx
structure StrF (mb : Nat) (w : World) (R : Int → List Int) (l : List Copy) (kk : Nat) (f : ByteArray → Option Value) : Prop where
  has : ∀ raw v, f raw = some v → okS raw ∧ ∃ A c, v = .slice A (R (firstSeg l raw)).length c ∧ SlX mb w A c (R (firstSeg l raw))
  met : ∀ j c, j < kk → l[j]? = some c → (f c.raw).isSome = true
theorem StrF.below {mb : Nat} {w w1 : World} {R : Int → List Int} {l : List Copy} {kk : Nat} {f : ByteArray → Option Value} (h : StrF mb w R l kk f) (hb : Below w.heap.size w w1) : StrF mb w1 R l kk f :=
  ⟨fun raw v hv => by
    obtain ⟨h1, A, c, e, hS⟩ := h.has raw v hv
    exact ⟨h1, A, c, e, hS.below hb⟩, h.met⟩
theorem StrF.grown {mb : Nat} {w w1 : World} {R : Int → List Int} {l : List Copy} {kk : Nat} {f : ByteArray → Option Value} (h : StrF mb w R l kk f) (hg : w.grownBy w1 (some mb)) : StrF mb w1 R l kk f :=
  ⟨fun raw v hv => by
    obtain ⟨h1, A, c, e, hS⟩ := h.has raw v hv
    exact ⟨h1, A, c, e, hS.grown hg⟩, h.met⟩
theorem StrF.next {mb : Nat} {w : World} {R : Int → List Int} {l : List Copy} {kk : Nat} {f : ByteArray → Option Value} (h : StrF mb w R l kk f) {x : Copy} (hx : l[kk]? = some x) (hf : (f x.raw).isSome = true) : StrF mb w R l (kk + 1) f :=
  ⟨h.has, fun j c hj hc => by
    rcases Nat.lt_or_ge j kk with h1 | h1
    · exact h.met j c h1 hc
    · obtain rfl : j = kk := by omega
      rw [hx] at hc; cases hc; exact hf⟩
theorem first_new : ∀ {l : List Copy} {kk : Nat} {x : Copy}, l[kk]? = some x → (∀ j c, j < kk → l[j]? = some c → c.raw ≠ x.raw) → firstSeg l x.raw = x.seg
  | y :: l, 0, x, h, _ => by cases h; simp [firstSeg]
  | y :: l, kk + 1, x, h, hn => by
    have h0 : y.raw ≠ x.raw := hn 0 y (by omega) rfl
    have := first_new (l := l) (kk := kk) (x := x) (by simpa using h) (fun j c hj hc => hn (j + 1) c (by omega) (by simpa using hc))
    rw [← this]
    simp [firstSeg, h0]
theorem StrF.put {mb : Nat} {w : World} {R : Int → List Int} {l : List Copy} {kk : Nat} {f : ByteArray → Option Value} (h : StrF mb w R l kk f) {x : Copy} (hx : l[kk]? = some x) (hf : f x.raw = none) (hk : okS x.raw) {v : Value}
    (hv : ∃ A c, v = .slice A (R x.seg).length c ∧ SlX mb w A c (R x.seg)) : StrF mb w R l (kk + 1) (put f x.raw v) := by
  have hfs : firstSeg l x.raw = x.seg := first_new hx fun j c hj hc e => by
    have := h.met j c hj hc
    rw [e, hf] at this; cases this
  refine ⟨fun raw u hu => ?_, fun j c hj hc => ?_⟩
  · by_cases e : raw = x.raw
    · subst e
      rw [put_same] at hu; cases hu
      rw [hfs]; exact ⟨hk, hv⟩
    · rw [put_other f _ e] at hu
      exact h.has raw u hu
  · by_cases e : c.raw = x.raw
    · rw [e, put_same]; rfl
    · rw [put_other f _ e]
      rcases Nat.lt_or_ge j kk with h1 | h1
      · exact h.met j c h1 hc
      · obtain rfl : j = kk := by omega
        rw [hx] at hc; cases hc; exact absurd rfl e
set_option maxHeartbeats 1000000 in
set_option maxRecDepth 100000 in
theorem stray_any (k : Nat) (a0 : Int) (l1 : List Plan) (l2 : List Host) (op : List (List Bool)) (l : List Copy) (R : Int → List Int) (A1 A2 A3 A4 : Option Addr) (c1 c2 c3 c4 : Nat) (w : World)
    (h1 : Kd.C K.k64 w A1 l1.length l1) (hc1 : l1.length ≤ c1) (h2 : Kd.C K.k91 w A2 l2.length l2) (hc2 : l2.length ≤ c2) (h3 : Kd.C (Kd.slice 4 Kd.bool) w A3 op.length op) (hc3 : op.length ≤ c3)
    (hS : Sl rCopy w A4 c4 l) (L0 : List Int) (E0 : Int) (h0 : K.flood_Reach.f k a0 l1 l2 op 0 = some (L0, E0)) (hseg : (l.any fun x => decide (x.seg < 0) || decide (a0 ≤ x.seg)) = false) (hE : E0 = 0)
    (hR : ∀ c ∈ l, K.flood_Reach.f k a0 l1 l2 op c.seg = some (R c.seg, 0)) (hRi : ∀ c ∈ l, ∀ x ∈ R c.seg, int64 x) :
    Calls Try.prog 12 #[.agg #[.int .i64 a0, .slice A1 l1.length c1, .slice A2 l2.length c2], .slice A3 op.length c3, .slice A4 l.length c4] w fun e w' => e = .returned (.tuple #[.int .i64 (strayFrom R l l 0), .int .i64 0]) ∧ Below w.heap.size w w' := by
  have hmm := @run_makeMap Try.prog
  have hn := hS.bound
  have HS := Lib.hid hS
  have H1 := Lib.hid h1
  have H2 := Lib.hid h2
  have H3 := Lib.hid h3
  have HR := Lib.hid hR
  have HRI := Lib.hid hRi
  have HH0 := Lib.hid h0
  subst hE
  have EG := Lib.hid (show Enters Try.prog 83 from enters_of Try.func83 (by kernel_rfl) rfl)
  have HODD := Lib.hid hseg
  clear hS h1 h2 h3 hR hRi h0 hseg
  go_enter Try.func12, Try.ntmps12
  go_wp2_with fail
  have hb0 : Below w.heap.size w (w.alloc (.cells #[.int .i64 a0, .slice A1 l1.length c1, .slice A2 l2.length c2] 25)) := (Below.refl _ _).alloc (Nat.le_refl _) _
  refine (K.flood_Reach.calls k a0 A1 c1 l1 A2 c2 l2 A3 c3 op 0 L0 0 _ (Kd.C_below H1.out hb0) hc1 (Kd.C_below H2.out hb0) hc2 (Kd.C_below H3.out hb0) hc3 HH0.out).mono ?_
  rintro e w1 ⟨v0, rfl, _, hb1⟩
  have k0 := Lib.hid (blk_below (blk_new w _) hb1)
  have r0 := blk_cell (i := 0) k0.out rfl
  have HB1 := Lib.hid (hb0.trans (hb1.mono hb0.size))
  clear hb0 hb1
  go_wp2_with (first
    | (go_at_call 46; refine (odd_any _ _).mono ?_; rintro e w' ⟨rfl, rfl⟩)
    | (go_at_call 45; refine (containsFunc_Copy _ _ EG.out _ _ _ _ _ ((HS.out.below HB1.out).below ((Below.refl _ _).alloc (Nat.le_refl _) _)) (odd_on _ a0 _ (by simp) (by rw [World.cell?_alloc_at _ _ _ _ rfl]; rfl))).mono ?_; rw [HODD.out]; rintro e w2 ⟨rfl, hb2⟩))
  have hb3 : Below w1.heap.size w1 w2 := ((Below.refl _ _).alloc (Nat.le_refl _) _).trans (hb2.mono (by simp))
  have HB3 := Lib.hid (HB1.out.trans (hb3.mono HB1.out.size))
  have K3 := Lib.hid (blk_below k0.out hb3)
  have hws := HB3.out.size
  clear hb2 hb3 r0
  go_loopg [33] l.length (fun gg s33 wr => ∃ (kk : Nat) (f : ByteArray → Option Value), kk ≤ l.length ∧ l.length - kk ≤ gg ∧ s33 = .int .i64 kk ∧
    Aside (Below w.heap.size w wr) ∧ Aside (wr.heap[w.heap.size]? = some (.cells #[.int .i64 a0, .slice A1 l1.length c1, .slice A2 l2.length c2] 25 (0, 0))) ∧ Aside (MapF encS wr w2.heap.size kk f) ∧ Aside (StrF w2.heap.size wr R l kk f) ∧ Aside (strayFrom R l (l.drop kk) kk = strayFrom R l l 0))
  case atStart => exact ⟨0, fun _ => none, Nat.zero_le _, by omega, rfl, aside (HB3.out.alloc HB3.out.size _), aside (blk_alloc K3.out _), aside (MapF.made encS w2), aside (StrF.mk (fun _ _ h => by cases h) (fun j c hj => by omega)), aside rfl⟩
  case round =>
    obtain ⟨kk, f, hkk, hg, rfl, BW, L0b, M, HF, HR0⟩ := hrel
    by_cases hlt : kk < l.length
    · have hlz : (kk : Int) < (l.length : Int) := by omega
      obtain ⟨b, off, x, rfl, hb, hd, hK, f0, f1, f2, f3, f4, q0, q1, q2, q3, q4⟩ := HS.out.atCopy BW.out kk hlt
      have HD := Lib.hid hd
      have hmem := List.mem_of_getElem? hd
      have HRX := Lib.hid (HR.out x hmem)
      have HRIX := Lib.hid (HRI.out x hmem)
      have HR1 := HR0.out
      rw [drop_of_get hd, strayFrom] at HR1
      have HR2 := Lib.hid HR1
      have HA := Lib.hid (show ∀ y v, f y = some v → okS y from fun y v h => (HF.out.has y v h).1)
      have hks : okS x.raw := f4
      have HRin := Lib.hid hmem
      clear hK HR1 hd HR0 hmem
      cases hfx : f x.raw with
      | some v =>
        obtain ⟨_, A, c, rfl, hSv⟩ := HF.out.has x.raw v hfx
        have hl : ∀ o, Sem.run Try.prog (Instr.lookup 88 (.map (some w2.heap.size)) (.string x.raw) true) (wr.alloc o) = .ok (.tuple #[.slice A (R (firstSeg l x.raw)).length c, .bool true]) (wr.alloc o) := fun o => by
          have := (M.out.alloc o).look (keyS Try.underlying9) HA.out Try.underlying88 (z := .slice none 0 0) (by kernel_rfl) x.raw hks true
          simpa [hfx, encS] using this
        have HV := Lib.hid hSv.now
        have HFX := Lib.hid (show (f x.raw).isSome = true from by rw [hfx]; rfl)
        clear hSv hfx
        cases hq : (R (firstSeg l x.raw)).any fun y => decide (y = x.seg)
        · have h4 := HR2.out
          rw [if_neg (by rw [hq]; decide)] at h4
          have H4 := Lib.hid h4
          have HQ := Lib.hid hq
          clear hq h4
          go_wp2_with (first
            | (go_at_call 48; refine (contains_int _ x.seg _ _ _ (HV.out.below ((Below.refl _ _).alloc (Nat.le_refl _) _))).mono ?_; rw [HQ.out]; rintro e w' ⟨rfl, rfl⟩))
          go_ret2
          exact ⟨ret_ii H4.out rfl, BW.out.alloc BW.out.size _⟩
        · have h4 := HR2.out
          rw [if_pos hq] at h4
          have H4 := Lib.hid h4
          have HQ := Lib.hid hq
          clear hq h4
          go_wp2_with (first
            | (go_at_call 48; refine (contains_int _ x.seg _ _ _ (HV.out.below ((Below.refl _ _).alloc (Nat.le_refl _) _))).mono ?_; rw [HQ.out]; rintro e w' ⟨rfl, rfl⟩))
          go_roundg (l.length - (kk + 1))
          case measure => omega
          case rel => exact ⟨kk + 1, f, by omega, by omega, by go_num, aside (BW.out.alloc BW.out.size _), aside (blk_alloc L0b.out _), aside ((M.out.alloc _).mono (Nat.le_succ _)), aside ((HF.out.below ((Below.refl _ _).alloc (Nat.le_refl _) _)).next HD.out HFX.out), H4⟩
      | none =>
        have hl : ∀ o, Sem.run Try.prog (Instr.lookup 88 (.map (some w2.heap.size)) (.string x.raw) true) (wr.alloc o) = .ok (.tuple #[.slice none 0 0, .bool false]) (wr.alloc o) := fun o => by
          have := (M.out.alloc o).look (keyS Try.underlying9) HA.out Try.underlying88 (z := .slice none 0 0) (by kernel_rfl) x.raw hks true
          simpa [hfx, encS] using this
        have r0 := fun o => blk_cell (i := 0) (blk_alloc L0b.out o) rfl
        have r1 := fun o => blk_cell (i := 1) (blk_alloc L0b.out o) rfl
        have r2 := fun o => blk_cell (i := 2) (blk_alloc L0b.out o) rfl
        have HFX := Lib.hid hfx
        have hfs : firstSeg l x.raw = x.seg := first_new HD.out fun j c hj hc e => by
          have := HF.out.met j c hj hc
          rw [e, hfx] at this; cases this
        have HFS := Lib.hid hfs
        clear hfx hfs
        go_wp2_with fail
        have hb8 : Below wr.heap.size wr (wr.alloc (.cells #[.int .i64 x.at_, .int .i64 x.seg, .int .i64 x.bridge, .int .i64 x.port, .string x.raw] 80)) := (Below.refl _ _).alloc (Nat.le_refl _) _
        have hb9 := BW.out.trans (hb8.mono BW.out.size)
        refine (K.flood_Reach.calls k a0 A1 c1 l1 A2 c2 l2 A3 c3 op x.seg (R x.seg) 0 _ (Kd.C_below H1.out hb9) hc1 (Kd.C_below H2.out hb9) hc2 (Kd.C_below H3.out hb9) hc3 HRX.out).mono ?_
        rintro e w4 ⟨v4, rfl, hO4, hb4⟩
        obtain ⟨A5, c5, hv5, hl5, hC5⟩ := Kd.R_reads hO4
        subst hv5
        have HV := Lib.hid (SlX.of_R (mb := w2.heap.size) hO4 (by have := M.out.lt; simp; omega) HRIX.out)
        have HB5 := Lib.hid (hb9.trans (hb4.mono hb9.size))
        have HB6 := Lib.hid (hb8.trans (hb4.mono hb8.size))
        have M4 := Lib.hid (M.out.below HB6.out)
        have L4 := Lib.hid (blk_below L0b.out HB6.out)
        have C4 := Lib.hid (blk_below (blk_new wr _) hb4)
        have s1 := blk_cell (i := 1) C4.out rfl
        have s4 := blk_cell (i := 4) C4.out rfl
        have hw4 := HB6.out.size
        clear r0 r1 r2 hO4 hC5 hb4 hb8 hb9
        go_wp2_with (first
          | (at_mapUpdate; refine wpList_storeF _ rfl _ _ _ 88 rfl (keyS Try.underlying9) Try.underlying88 _ _ f rfl M4.out HA.out x.raw rfl hks (.slice A5 (R x.seg).length c5) rfl ?_; intro w5 hM5 hg5; have t1 := blk_cell (i := 1) (blk_grown C4.out hg5 (by have := M.out.lt; simp; omega)) rfl)
          | fail)
        have HV5 := Lib.hid (HV.out.grown hg5).now
        have hb7 := below_grown HB5.out hg5 HB5.out.size (fun k hk => by cases hk; exact hws)
        have HF5 := Lib.hid (StrF.put ((HF.out.below HB6.out).grown hg5) HD.out HFX.out hks ⟨A5, c5, rfl, HV.out.grown hg5⟩)
        have L5 := Lib.hid (blk_grown L4.out hg5 (by have := HB1.out.size; have := blk_lt K3.out; simp; omega))
        have HM5 := Lib.hid hM5
        have HB7 := Lib.hid hb7
        clear hM5 hb7 hg5
        cases hq : (R x.seg).any fun y => decide (y = x.seg)
        · have h4 := HR2.out
          rw [HFS.out, if_neg (by rw [hq]; decide)] at h4
          have H4 := Lib.hid h4
          have HQ := Lib.hid hq
          clear hq h4
          refine (contains_int _ x.seg _ _ _ HV5.out).mono ?_
          rw [HQ.out]
          rintro e w' ⟨rfl, rfl⟩
          go_wp2
          go_ret2
          exact ⟨ret_ii H4.out rfl, HB7.out⟩
        · have h4 := HR2.out
          rw [HFS.out, if_pos hq] at h4
          have H4 := Lib.hid h4
          have HQ := Lib.hid hq
          clear hq h4
          refine (contains_int _ x.seg _ _ _ HV5.out).mono ?_
          rw [HQ.out]
          rintro e w' ⟨rfl, rfl⟩
          go_wp2
          go_roundg (l.length - (kk + 1))
          case measure => omega
          case rel => exact ⟨kk + 1, _, by omega, by omega, by go_num, HB7, L5, HM5, HF5, H4⟩
    · have hlz : ¬ (kk : Int) < (l.length : Int) := by omega
      obtain rfl : kk = l.length := by omega
      have h4 := HR0.out
      rw [drop_end, strayFrom] at h4
      have H4 := Lib.hid h4
      clear h4
      go_wp2
      go_ret2
      exact ⟨ret_ii H4.out rfl, BW.out⟩
end Go.Proofs.Ytjblfgagafmhcaa.Fw
