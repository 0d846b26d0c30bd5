/- Part 30 of the proof of one statement: what is written for it by hand and by a program of this seat's, over the given program's form. Conditions: none. -/
import Derived.Test.YtjblfgagafmhcaaZ7
set_option linter.unusedVariables false
set_option linter.unusedSimpArgs false
namespace Go.Proofs.Ytjblfgagafmhcaa.K
open Go.RowKit Go.Proofs.YtjblfgagafmhcaaW.PrintWords Go.Proofs.YtjblfgagafmhcaaW.PrintLast Go.Proofs.YtjblfgagafmhcaaW.PrintMore
attribute [local go_sem] max2_int min2_int max_two min_two max_three min_three max_four min_four   -- for this text's walks alone
set_option linter.unusedVariables false
set_option linter.unusedSimpArgs false
noncomputable section
def footwaylaw20_rows.l0 : Nat → List (List Bool) → List (List Bool) → Int → Int → Option ((List (List Bool)))
 | 0, _, _, _, _ => none
 | k + 1, x3, x10, x11, x12 => if x12 < x11 then (if 0 ≤ x12 then (if x12 < (x10.length : Int) then (if 0 ≤ (mn ((rd_L18 x10 x12).length : Int) 10) then (if (mn ((rd_L18 x10 x12).length : Int) 10) ≤ ((rd_L18 x10 x12).length : Int) then (if x3.length < 5864062014805 then (footwaylaw20_rows.l0 k (x3 ++ [((rd_L18 x10 x12).take ((mn ((rd_L18 x10 x12).length : Int) 10) : Int).toNat)]) x10 x11 (wrap64 (x12 + 1))) else (none)) else (none)) else (none)) else (none)) else (none)) else (some x3)
def footwaylaw20_rows.f (k : Nat) (l0 : List (List Bool)) : Option ((List (List Bool))) := if 0 ≤ (mn (l0.length : Int) 8) then (if (mn (l0.length : Int) 8) ≤ (l0.length : Int) then ((some (l0.take ((mn (l0.length : Int) 8) : Int).toNat : List (List Bool))).bind fun y123 => (footwaylaw20_rows.l0 k ([] : List (List Bool)) y123 (y123.length : Int) 0)) else (none)) else (none)
theorem footwaylaw20_rows.mono_l : ∀ k, (∀ y0 y1 y2 y3, LeO (footwaylaw20_rows.l0 k y0 y1 y2 y3) (footwaylaw20_rows.l0 (k + 1) y0 y1 y2 y3))
 | 0 => fun _ _ _ _ r h => by simp [footwaylaw20_rows.l0] at h
 | k + 1 => by
  have ih0 := footwaylaw20_rows.mono_l k
  ·intro y0 y1 y2 y3
   unfold footwaylaw20_rows.l0
   repeat' first
   | (with_reducible exact ih0 _ _ _ _)
   | (with_reducible exact LeO.refl _)
   | (with_reducible exact LeO.none _)
   | (with_reducible refine LeO.ite ?_ ?_)
   | (with_reducible refine LeO.bind ?_ (fun _ => ?_))
   | exact ih0 _ _ _ _
   | exact LeO.none _
   | refine LeO.ite ?_ ?_
   | refine LeO.bind ?_ (fun _ => ?_)
theorem footwaylaw20_rows.mono : ∀ a0 k, LeO (footwaylaw20_rows.f k a0) (footwaylaw20_rows.f (k + 1) a0) := by
 intro a0 k
 have ih0 := footwaylaw20_rows.mono_l k
 unfold footwaylaw20_rows.f
 repeat' first
   | (with_reducible exact ih0 _ _ _ _)
   | (with_reducible exact LeO.refl _)
   | (with_reducible exact LeO.none _)
   | (with_reducible refine LeO.ite ?_ ?_)
   | (with_reducible refine LeO.bind ?_ (fun _ => ?_))
   | exact ih0 _ _ _ _
   | exact LeO.none _
   | refine LeO.ite ?_ ?_
   | refine LeO.bind ?_ (fun _ => ?_)
set_option maxHeartbeats 8000000 in
set_option maxRecDepth 100000 in
theorem footwaylaw20_rows.calls (k : Nat) (P0_ : Nat → Prop) (A0 : Option Addr) (c0 : Nat) (l0 : List (List Bool)) (r : List (List Bool)) (w : World) (hs0 : Kd.V (Kd.slice 4 Kd.bool) 67 w w.heap.size (fun k_ => P0_ k_) (.slice A0 l0.length c0) l0) (h : footwaylaw20_rows.f k l0 = some r) :
  Calls Try.prog 9 #[.slice A0 l0.length c0] w fun e w' => ∃ v0_ : Value, e = .returned (v0_) ∧ Kd.N (Kd.slice 4 Kd.bool) 67 w' w.heap.size (fun k_ => (P0_ k_ ∨ w.heap.size ≤ k_)) v0_ r ∧ Below w.heap.size w w' := by
 have HO0 := Aside0.mk (show Kd.V (Kd.slice 4 Kd.bool) 67 w w.heap.size (fun k_ => (P0_ k_ ∨ w.heap.size ≤ k_)) (.slice A0 l0.length c0) l0 from Kd.V_mono hs0 (fun k_ hk => .inl hk))
 have HB := Aside0.mk (Below.refl w.heap.size w)
 have H : (if 0 ≤ (mn (l0.length : Int) 8) then (if (mn (l0.length : Int) 8) ≤ (l0.length : Int) then ((some (l0.take ((mn (l0.length : Int) 8) : Int).toNat : List (List Bool))).bind fun y123 => (footwaylaw20_rows.l0 k ([] : List (List Bool)) y123 (y123.length : Int) 0)) else (none)) else (none)) = some r := h
 clear h
 obtain ⟨ji2, hji2⟩ : ∃ j_ : Int, (mn (l0.length : Int) 8) = j_ := ⟨_, rfl⟩
 replace H : (if 0 ≤ (ji2) then (if (ji2) ≤ (l0.length : Int) then ((some (l0.take ((ji2) : Int).toNat : List (List Bool))).bind fun y123 => (footwaylaw20_rows.l0 k ([] : List (List Bool)) y123 (y123.length : Int) 0)) else (none)) else (none)) = some r := by first | (rw [hji2] at H; exact H) | (simp only [hji2] at H ⊢; exact H)
 (try (have hji2h : ji2 ≤ 8 := by (rw [← hji2]; unfold mn; (repeat' split) <;> omega)))
 (try (have hji2g : ji2 ≤ 64 := by omega))
 (try (have hji2l : 0 ≤ ji2 := by (rw [← hji2]; unfold mn; (repeat' split) <;> omega)))
 (try (have hji2m : 0 ≤ ji2 := by omega))
 have hji2_ : (if 8 < (l0.length : Int) then 8 else (l0.length : Int)) = ji2 := hji2
 by_cases c3 : 0 ≤ (ji2)
 ·rw [if_pos c3] at H
  have c3b0 := eq_true c3
  have c3b1 : decide (0 ≤ (ji2)) = true := decide_eq_true c3
  clear c3
  by_cases c4 : (ji2) ≤ (l0.length : Int)
  ·rw [if_pos c4] at H
   have c4b0 := eq_true c4
   have c4b1 : decide ((ji2) ≤ (l0.length : Int)) = true := decide_eq_true c4
   clear c4
   obtain ⟨y123, hy123⟩ : ∃ y_ : List (List Bool), y_ = (l0.take ((ji2) : Int).toNat) := ⟨_, rfl⟩
   replace H : (footwaylaw20_rows.l0 k ([] : List (List Bool)) y123 (y123.length : Int) 0) = some r := by first | (rw [hy123]; with_reducible exact H) | (have H2_ := (Option.bind_some _ _).symm.trans H; rw [hy123]; with_reducible exact H2_) | (have H2_ := (Option.bind_some _ _).symm.trans H; with_reducible exact H2_) | with_reducible exact H | (rw [hy123]; exact H) | exact H
   have Ny123 := Aside0.mk hy123
   clear hy123
   have H' := Aside0.mk H
   clear H
   have q5 : ((ji2) : Int) ≤ ((l0.length : Int) : Int) := of_decide_eq_true (by first | (with_reducible assumption) | assumption)
   obtain ⟨i05, hi05, _, hsz5, _⟩ := info_parts info67
   have hroom5 : l0.length ≤ c0 := (Kd.V_reads' HO0.out).2.1
   have hC5 : Kd.F (Kd.slice 4 Kd.bool) _ _ A0 l0.length l0 := (Kd.V_at (base := w.heap.size) HO0.out).2.2
   have hcut5 := cut_to (P := Try.prog) 26 67 .i64 Try.underlying26 hi05 A0 l0.length c0 (ji2) (of_decide_eq_true (by first | (with_reducible assumption) | assumption)) q5 hroom5
   have hr5 := Kd.F_take (m := ((ji2) : Int).toNat) hC5 (by omega)
   have hy5 : y123.length = ((ji2) : Int).toNat := (by rw [Ny123.out, List.length_take]; omega)
   rw [← Ny123.out] at hr5
   rw [← hy5] at hcut5
   have HO127 := Aside0.mk (show Kd.V (Kd.slice 4 Kd.bool) 67 _ w.heap.size _ (.slice A0 y123.length c0) y123 from Kd.V_mk (by omega) hr5)
   have HC127 := Aside0.mk (show y123.length ≤ c0 from by omega)
   clear hr5 hC5 hroom5 hi05 hsz5
   have KY5 := Aside0.mk hy5
   clear hy5
   replace q5 := eq_true q5
   go_enter Try.func9, Try.ntmps9
   go_wp2
   go_loopg [3, 12] k (fun kq v3 v12 w' => ∃ (x3_1 : List (List Bool)) (x12_1 : Int), v12 = .int .i64 x12_1 ∧ Aside0 (footwaylaw20_rows.l0 kq x3_1 y123 (y123.length : Int) x12_1 = some r) ∧ Aside0 (kq ≤ k) ∧ Aside0 (Kd.N (Kd.slice 4 Kd.bool) 67 w' w.heap.size (fun k_ => (P0_ k_ ∨ w.heap.size ≤ k_)) v3 x3_1) ∧ Aside0 (Kd.V (Kd.slice 4 Kd.bool) 67 w' w.heap.size (fun k_ => (P0_ k_ ∨ w.heap.size ≤ k_) ∧ some k_ ≠ (v3 : Value).ownBlock) (.slice A0 y123.length c0) y123) ∧ Aside0 (Below w.heap.size w w'))
   case atStart => exact ⟨(([] : List (List Bool))), (0), (by first | rfl | (simp; done) | (simp [*]; done)), H', ⟨Nat.le_refl _⟩, ⟨by first | exact Kd.S_nil _ _ _ _ _ | exact Kd.N_nil _ _ _ _ _ | exact Kd.V_nil _ _ _ _ _ | exact Kd.Q_nil _ _ _ _ _ | exact Kd.R_nil _ _ _ _ _⟩, ⟨by (with_reducible repeat (first | apply Kd.V_alloc | apply Kd.V_drewN | apply Kd.V_drew)); exact Kd.V_mono HO127.out (fun _ hk => ⟨hk, (by simp [Value.ownBlock])⟩)⟩, ⟨by repeat (first | (with_reducible first | exact HB.out | apply below_alloc | apply pw_below_drewN | apply below_drew1) | exact HB.out)⟩⟩
   case round =>
    clear H'
    try clear p2
    try clear c3
    try clear c3b0
    try clear c3b1
    try clear c4
    try clear c4b0
    try clear c4b1
    try clear q5
    try clear q5
    obtain ⟨x3_1, x12_1, rfl, HA, HK1, HO_3, HO_10, HB⟩ := hrel
    cases gk with
    | zero => exact absurd HA.out (by simp [footwaylaw20_rows.l0])
    | succ k1 =>
     have H := HA.out
     clear HA
     simp only [footwaylaw20_rows.l0] at H
     by_cases c6 : x12_1 < (y123.length : Int)
     ·rw [if_pos c6] at H
      have c6b0 : decide (x12_1 < (y123.length : Int)) = true := decide_eq_true c6
      clear c6
      by_cases c7 : 0 ≤ x12_1
      ·rw [if_pos c7] at H
       have c7b0 : decide (0 ≤ x12_1) = true := decide_eq_true c7
       clear c7
       by_cases c8 : x12_1 < (y123.length : Int)
       ·rw [if_pos c8] at H
        have c8b0 : decide (x12_1 < (y123.length : Int)) = true := decide_eq_true c8
        clear c8
        obtain ⟨ji9, hji9⟩ : ∃ j_ : Int, (mn ((rd_L18 y123 x12_1).length : Int) 10) = j_ := ⟨_, rfl⟩
        replace H : (if 0 ≤ (ji9) then (if (ji9) ≤ ((rd_L18 y123 x12_1).length : Int) then (if x3_1.length < 5864062014805 then (footwaylaw20_rows.l0 k1 (x3_1 ++ [((rd_L18 y123 x12_1).take ((ji9) : Int).toNat)]) y123 (y123.length : Int) (wrap64 (x12_1 + 1))) else (none)) else (none)) else (none)) = some r := by first | (rw [hji9] at H; exact H) | (simp only [hji9] at H ⊢; exact H)
        have hji9_ : (if 10 < ((rd_L18 y123 x12_1).length : Int) then 10 else ((rd_L18 y123 x12_1).length : Int)) = ji9 := hji9
        by_cases c10 : 0 ≤ (ji9)
        ·rw [if_pos c10] at H
         have c10b0 := eq_true c10
         have c10b1 : decide (0 ≤ (ji9)) = true := decide_eq_true c10
         clear c10
         by_cases c11 : (ji9) ≤ ((rd_L18 y123 x12_1).length : Int)
         ·rw [if_pos c11] at H
          have c11b0 := eq_true c11
          have c11b1 : decide ((ji9) ≤ ((rd_L18 y123 x12_1).length : Int)) = true := decide_eq_true c11
          clear c11
          obtain ⟨y129, hy129⟩ : ∃ y_ : List Bool, y_ = ((rd_L18 y123 x12_1).take ((ji9) : Int).toNat) := ⟨_, rfl⟩
          replace H : (if x3_1.length < 5864062014805 then (footwaylaw20_rows.l0 k1 (x3_1 ++ [y129]) y123 (y123.length : Int) (wrap64 (x12_1 + 1))) else (none)) = some r := by first | (rw [hy129]; with_reducible exact H) | (have H2_ := (Option.bind_some _ _).symm.trans H; rw [hy129]; with_reducible exact H2_) | (have H2_ := (Option.bind_some _ _).symm.trans H; with_reducible exact H2_) | with_reducible exact H | (rw [hy129]; exact H) | exact H
          have Ny129 := Aside0.mk hy129
          clear hy129
          by_cases c12 : x3_1.length < 5864062014805
          ·rw [if_pos c12] at H
           have LMc12 := Aside0.mk c12
           clear c12
           obtain ⟨y134, hy134⟩ : ∃ y_ : List (List Bool), y_ = (x3_1 ++ [y129]) := ⟨_, rfl⟩
           replace H : (footwaylaw20_rows.l0 k1 y134 y123 (y123.length : Int) (wrap64 (x12_1 + 1))) = some r := by first | (rw [hy134]; with_reducible exact H) | (have H2_ := (Option.bind_some _ _).symm.trans H; rw [hy134]; with_reducible exact H2_) | (have H2_ := (Option.bind_some _ _).symm.trans H; with_reducible exact H2_) | with_reducible exact H | (rw [hy134]; exact H) | exact H
           have Ny134 := Aside0.mk hy134
           clear hy134
           have H' := Aside0.mk H
           clear H
           have p128 : 0 ≤ (x12_1 : Int) := of_decide_eq_true (by first | (with_reducible assumption) | assumption)
           have q128 : x12_1 < (y123.length : Int) := of_decide_eq_true (by first | (with_reducible assumption) | assumption)
           obtain ⟨ad128, A128_0, c128_0, e128, hx128_0, hl128_0, hi128_0⟩ := at_L18 (Kd.V_reads' HO_10.out).2.2 x12_1 p128 q128
           cases e128
           obtain ⟨ce128, hce128, hMe128, hcc128⟩ := Kd.V_get HO_10.out [] x12_1 p128 (by first | exact q128 | exact of_decide_eq_true (by first | (with_reducible assumption) | assumption) | (have e_ := (Kd.V_reads' HO_10.out).1; omega))
           obtain ⟨ua128_0, uc128_0, rfl, ul128_0, ge128_0⟩ := Kd.FK_slice_open hMe128
           have hv128_0 := hcc128 0 _ rfl
           rw [Nat.add_zero, show ((Kd.slice 4 Kd.bool)).sz = 1 from rfl, Nat.mul_one] at hv128_0
           replace hv128_0 := Option.some.inj (hv128_0.symm.trans hx128_0)
           injection hv128_0 with hva_ hvn_ hvc_
           rw [hva_] at ge128_0
           rw [hvc_] at ul128_0
           have HL128_0 := Aside0.mk (show Kd.V Kd.bool 4 _ w.heap.size _ _ (rd_L18 y123 x12_1) from Kd.V_mk ul128_0 ge128_0)
           clear hva_ hvn_ hvc_ ge128_0 ul128_0
           clear hcc128 hce128
           have HR128_0 := Aside0.mk hi128_0
           have HC128_0 := Aside0.mk hl128_0
           clear hi128_0 hl128_0
           replace p128 := eq_true p128
           replace q128 := eq_true q128
           have q13 : ((ji9) : Int) ≤ (((rd_L18 y123 x12_1).length : Int) : Int) := of_decide_eq_true (by first | (with_reducible assumption) | assumption)
           obtain ⟨i013, hi013, _, hsz13, _⟩ := info_parts info4
           have hroom13 : (rd_L18 y123 x12_1).length ≤ c128_0 := HC128_0.out
           have hC13 : Kd.F Kd.bool _ _ A128_0 (rd_L18 y123 x12_1).length (rd_L18 y123 x12_1) := (Kd.V_at (base := w.heap.size) HL128_0.out).2.2
           have hcut13 := cut_to (P := Try.prog) 67 4 .i64 Try.underlying67 hi013 A128_0 (rd_L18 y123 x12_1).length c128_0 (ji9) (of_decide_eq_true (by first | (with_reducible assumption) | assumption)) q13 hroom13
           have hr13 := Kd.F_take (m := ((ji9) : Int).toNat) hC13 (by omega)
           have hy13 : y129.length = ((ji9) : Int).toNat := (by rw [Ny129.out, List.length_take]; omega)
           rw [← Ny129.out] at hr13
           rw [← hy13] at hcut13
           have HO133 := Aside0.mk (show Kd.V Kd.bool 4 _ w.heap.size _ (.slice A128_0 y129.length c128_0) y129 from Kd.V_mk (by omega) hr13)
           have HC133 := Aside0.mk (show y129.length ≤ c128_0 from by omega)
           clear hr13 hC13 hroom13 hi013 hsz13
           have KY13 := Aside0.mk hy13
           clear hy13
           replace q13 := eq_true q13
           go_wp2_with (first | ((with_reducible refine gate_builtin (b := .append) (xs := #[.tmp 16, .tmp 22]) rfl ?_); at_builtin; refine Kd.N_append (Kd.slice 4 Kd.bool) (w0 := w) w.heap.size rfl (.tmp 16) (.tmp 22) 26 67 (.slice none 0 0) 24 rfl Try.underlying26 info67 rfl (by decide) (by omega) u3 x3_1 y129 [.slice A128_0 y129.length c128_0] (fun k_ => (P0_ k_ ∨ w.heap.size ≤ k_)) (fun k_ => ((fun k_ => (P0_ k_ ∨ w.heap.size ≤ k_))) k_ ∧ some k_ ≠ (u3 : Value).ownBlock) rfl rfl ?aP (fun _ hk => hk) ?aF ?aO ?aB ?aS ?aL ?_; (case aP => exact (Kd.FK_slice_mk (Kd.V_reads' (Kd.V_mono (ok' := (fun k_ => ((fun k_ => (P0_ k_ ∨ w.heap.size ≤ k_))) k_ ∧ some k_ ≠ (u3 : Value).ownBlock)) (HO133.out) (fun k_ hk => ⟨hk.1, hk.2⟩))).2.1 (Kd.V_F (Kd.V_mono (ok' := (fun k_ => ((fun k_ => (P0_ k_ ∨ w.heap.size ≤ k_))) k_ ∧ some k_ ≠ (u3 : Value).ownBlock)) (HO133.out) (fun k_ hk => ⟨hk.1, hk.2⟩))))); (case aB => exact (by repeat (first | (with_reducible first | exact HB.out | apply below_alloc | apply pw_below_drewN | apply below_drew1) | exact HB.out))); (case aF => exact (fun k_ hk => (.inr (Nat.le_trans (below_size (by repeat (first | (with_reducible first | exact HB.out | apply below_alloc | apply pw_below_drewN | apply below_drew1) | exact HB.out))) hk)))); (case aO => exact (by (with_reducible repeat (first | apply Kd.N_alloc | apply Kd.N_drewN | apply Kd.N_drew)); exact HO_3.out)); (case aS => exact (below_size (by repeat (first | (with_reducible first | exact HB.out | apply below_alloc | apply pw_below_drewN | apply below_drew1) | exact HB.out)))); (case aL => have := LMc12.out; omega); intro v135 w14 ho hb hg hat; rw [← Ny134.out] at ho; have n0_ := Aside0.mk (Kd.V_afterv (ok := (fun k_ => (P0_ k_ ∨ w.heap.size ≤ k_))) (by (with_reducible repeat (first | apply Kd.V_alloc | apply Kd.V_drewN | apply Kd.V_drew)); exact HO_10.out) hg hat); have n1_ := Aside0.mk (Kd.V_afterv (ok := (fun k_ => (P0_ k_ ∨ w.heap.size ≤ k_))) (by (with_reducible repeat (first | apply Kd.V_alloc | apply Kd.V_drewN | apply Kd.V_drew)); exact HL128_0.out) hg hat); have n2_ := Aside0.mk (Kd.V_afterv (ok := (fun k_ => (P0_ k_ ∨ w.heap.size ≤ k_))) (by (with_reducible repeat (first | apply Kd.V_alloc | apply Kd.V_drewN | apply Kd.V_drew)); exact HO133.out) hg hat); have n3_ := Aside0.mk (hb); have n4_ := Aside0.mk (ho); clear HO_10; clear HL128_0; clear HO133; clear HB; clear HO_3; have HO_10 := n0_; have HL128_0 := n1_; have HO133 := n2_; have HB := n3_; have HO136 := n4_; clear n0_ n1_ n2_ n3_ n4_; clear ho hb hg hat))
           go_roundg k1
           case measure => have := HK1.out; omega
           case rel => exact ⟨(y134), (wrap64 (x12_1 + 1)), (by first | rfl | (simp; done) | (simp [*]; done)), H', ⟨by have := HK1.out; omega⟩, ⟨by (with_reducible repeat (first | apply Kd.N_alloc | apply Kd.N_drewN | apply Kd.N_drew)); exact HO136.out⟩, ⟨by (with_reducible repeat (first | apply Kd.V_alloc | apply Kd.V_drewN | apply Kd.V_drew)); exact HO_10.out⟩, ⟨by repeat (first | (with_reducible first | exact HB.out | apply below_alloc | apply pw_below_drewN | apply below_drew1) | exact HB.out)⟩⟩
          ·rw [if_neg c12] at H
           exact absurd H (by simp)
         ·rw [if_neg c11] at H
          exact absurd H (by simp)
        ·rw [if_neg c10] at H
         exact absurd H (by simp)
       ·rw [if_neg c8] at H
        exact absurd H (by simp)
      ·rw [if_neg c7] at H
       exact absurd H (by simp)
     ·rw [if_neg c6] at H
      have c6b0 : decide (x12_1 < (y123.length : Int)) = false := decide_eq_false c6
      clear c6
      obtain rfl := Option.some.inj H
      go_wp2
      go_ret
      exact ⟨_, by first | rfl | (simp [errW_none, errW_some] <;> rfl) | (simp only [← hji2]; first | rfl | (simp [errW_none, errW_some] <;> rfl)) | (simp [*, errW_none, errW_some] <;> rfl), by (with_reducible repeat (first | apply Kd.N_alloc | apply Kd.N_drewN | apply Kd.N_drew)); exact HO_3.out, by repeat (first | (with_reducible first | exact HB.out | apply below_alloc | apply pw_below_drewN | apply below_drew1) | exact HB.out)⟩
  ·rw [if_neg c4] at H
   exact absurd H (by simp)
 ·rw [if_neg c3] at H
  exact absurd H (by simp)
end
end Go.Proofs.Ytjblfgagafmhcaa.K
