/- Part 28 of the proof of one statement: what is written for it by hand and by a program of this seat's, over the given program's form. Conditions: none. -/
import Derived.Test.YtjblfgagafmhcaaZ7
import Derived.Test.YtjblfgagafmhcaaZ25
import Derived.Test.YtjblfgagafmhcaaZ11
set_option linter.unusedVariables false
set_option linter.unusedSimpArgs false
namespace Go.Proofs.Ytjblfgagafmhcaa.K
open Go.RowKit Go.Proofs.YtjblfgagafmhcaaW.PrintWords Go.Proofs.YtjblfgagafmhcaaW.PrintLast Go.Proofs.YtjblfgagafmhcaaW.PrintMore
attribute [local go_sem] max2_int min2_int max_two min_two max_three min_three max_four min_four   -- for this text's walks alone
set_option linter.unusedVariables false
set_option linter.unusedSimpArgs false
noncomputable section
open Classical in
noncomputable def footwaylaw20_few.f (l0 : List (S80)) : Option ((List (S80))) :=
 if ∀ x ∈ l0, Fw.okCopy x then some (Fw.fewL l0) else none
set_option maxHeartbeats 1000000 in
set_option maxRecDepth 100000 in
theorem footwaylaw20_few.calls (A0 : Option Addr) (c0 : Nat) (l0 : List (S80)) (r : List (S80)) (w : World) (hr0 : Kd.C k80 w A0 l0.length l0) (hc0 : l0.length ≤ c0) (h : footwaylaw20_few.f l0 = some r) :
  Calls Try.prog 10 #[.slice A0 l0.length c0] w fun e w' => ∃ v0_ : Value, e = .returned (v0_) ∧ Kd.R k80 80 w' w.heap.size (fun _ => True) v0_ r ∧ Below w.heap.size w w' := by
 unfold footwaylaw20_few.f at h
 split at h
 ·rename_i ok
  obtain rfl := Option.some.inj h
  refine (Fw.few_any l0 A0 c0 w (Fw.slCopy hr0 hc0 ok)).mono ?_
  rintro e w' ⟨v, rfl, ho, hb⟩
  exact ⟨v, rfl, Fw.R_copies ho, hb⟩
 ·cases h
end
end Go.Proofs.Ytjblfgagafmhcaa.K
namespace Go.Proofs.Ytjblfgagafmhcaa.K
open Go.RowKit Go.Proofs.YtjblfgagafmhcaaW.PrintWords Go.Proofs.YtjblfgagafmhcaaW.PrintLast Go.Proofs.YtjblfgagafmhcaaW.PrintMore
attribute [local go_sem] max2_int min2_int max_two min_two max_three min_three max_four min_four   -- for this text's walks alone
set_option linter.unusedVariables false
set_option linter.unusedSimpArgs false
noncomputable section
open Classical in
noncomputable def judge_Where.f (l0 : List (S80)) (a1 : ByteArray) (a2 : Int) : Option (List Int × Int) :=
 if (∀ x ∈ l0, Fw.okCopy x) ∧ l0.length ≤ 1000000 ∧ a1.size ≤ 9223372036854775807 then some (if Fw.whereE l0 a2 = 0 then Fw.whereL l0 a1 a2.toNat else [], Fw.whereE l0 a2) else none
set_option maxHeartbeats 1000000 in
set_option maxRecDepth 100000 in
theorem judge_Where.calls (A0 : Option Addr) (c0 : Nat) (l0 : List (S80)) (a1 : ByteArray) (a2 : Int) (r1 : List Int) (r2 : Int) (w : World) (hr0 : Kd.C k80 w A0 l0.length l0) (hc0 : l0.length ≤ c0) (h : judge_Where.f l0 a1 a2 = some (r1, r2)) :
  Calls Try.prog 11 #[.slice A0 l0.length c0, .string a1, .int .i64 a2] w fun e w' => ∃ v0_ : Value, e = .returned (.tuple #[v0_, .int .i64 r2]) ∧ Kd.R (Kd.int .i64) 3 w' w.heap.size (fun _ => True) v0_ r1 ∧ Below w.heap.size w w' := by
 unfold judge_Where.f at h
 split at h
 ·rename_i ok
  have h := Option.some.inj h
  simp only [Prod.mk.injEq] at h
  obtain ⟨rfl, rfl⟩ := h
  refine (Fw.where_full l0 a1 a2 A0 c0 w (Fw.slCopy hr0 hc0 ok.1) ok.2.1 ok.2.2).mono ?_
  rintro e w' ⟨v, rfl, ho, hb⟩
  exact ⟨v, rfl, Fw.R_ints ho, hb⟩
 ·cases h
end
end Go.Proofs.Ytjblfgagafmhcaa.K
namespace Go.Proofs.Ytjblfgagafmhcaa.K
open Go.RowKit Go.Proofs.YtjblfgagafmhcaaW.PrintWords Go.Proofs.YtjblfgagafmhcaaW.PrintLast Go.Proofs.YtjblfgagafmhcaaW.PrintMore
attribute [local go_sem] max2_int min2_int max_two min_two max_three min_three max_four min_four   -- for this text's walks alone
set_option linter.unusedVariables false
set_option linter.unusedSimpArgs false
noncomputable section
open Classical in
noncomputable def judge_Stray.f (a0_0 : Int) (l0_1 : List (S64)) (l0_2 : List (S91)) (l1 : List (List Bool)) (l2 : List (S80)) : Option (Int × Int) :=
 if (∀ x ∈ l0_1, Fw.okPlan x) ∧ (∀ x ∈ l0_2, Fw.okHost x) ∧ Fw.int64 a0_0 ∧ ∀ x ∈ l2, Fw.okCopy x then some (Fw.strayV ⟨a0_0, l0_1, l0_2⟩ l1 l2, Fw.strayE ⟨a0_0, l0_1, l0_2⟩ l1 l2) else none
set_option maxHeartbeats 1000000 in
set_option maxRecDepth 100000 in
theorem judge_Stray.calls (a0_0 : Int) (A0_1 : Option Addr) (c0_1 : Nat) (l0_1 : List (S64)) (A0_2 : Option Addr) (c0_2 : Nat) (l0_2 : List (S91)) (A1 : Option Addr) (c1 : Nat) (l1 : List (List Bool)) (A2 : Option Addr) (c2 : Nat) (l2 : List (S80)) (r1 : Int) (r2 : Int) (w : World) (hr0_1 : Kd.C k64 w A0_1 l0_1.length l0_1) (hc0_1 : l0_1.length ≤ c0_1) (hr0_2 : Kd.C k91 w A0_2 l0_2.length l0_2) (hc0_2 : l0_2.length ≤ c0_2) (hr1 : Kd.C (Kd.slice 4 Kd.bool) w A1 l1.length l1) (hc1 : l1.length ≤ c1) (hr2 : Kd.C k80 w A2 l2.length l2) (hc2 : l2.length ≤ c2) (h : judge_Stray.f a0_0 l0_1 l0_2 l1 l2 = some (r1, r2)) :
  Calls Try.prog 12 #[.agg #[.int .i64 a0_0, .slice A0_1 l0_1.length c0_1, .slice A0_2 l0_2.length c0_2], .slice A1 l1.length c1, .slice A2 l2.length c2] w fun e w' => e = .returned (.tuple #[.int .i64 r1, .int .i64 r2]) ∧ Below w.heap.size w w' := by
 unfold judge_Stray.f at h
 split at h
 ·rename_i ok
  have h := Option.some.inj h
  simp only [Prod.mk.injEq] at h
  obtain ⟨rfl, rfl⟩ := h
  exact Fw.stray_full a0_0 l0_1 l0_2 l1 l2 A0_1 A0_2 A1 A2 c0_1 c0_2 c1 c2 w hr0_1 hc0_1 hr0_2 hc0_2 hr1 hc1 hr2 hc2 ok.1 ok.2.1 ok.2.2.1 ok.2.2.2
 ·cases h
end
end Go.Proofs.Ytjblfgagafmhcaa.K
namespace Go.Proofs.Ytjblfgagafmhcaa.K
open Go.RowKit Go.Proofs.YtjblfgagafmhcaaW.PrintWords Go.Proofs.YtjblfgagafmhcaaW.PrintLast Go.Proofs.YtjblfgagafmhcaaW.PrintMore
attribute [local go_sem] max2_int min2_int max_two min_two max_three min_three max_four min_four   -- for this text's walks alone
set_option linter.unusedVariables false
set_option linter.unusedSimpArgs false
noncomputable section
open Classical in
noncomputable def judge_Twice.f (l0 : List (S80)) : Option (Int) :=
 if ∀ x ∈ l0, Fw.okCopy x then some (Fw.twiceFrom l0 [] 0) else none
set_option maxHeartbeats 1000000 in
set_option maxRecDepth 100000 in
theorem judge_Twice.calls (A0 : Option Addr) (c0 : Nat) (l0 : List (S80)) (r : Int) (w : World) (hr0 : Kd.C k80 w A0 l0.length l0) (hc0 : l0.length ≤ c0) (h : judge_Twice.f l0 = some r) :
  Calls Try.prog 14 #[.slice A0 l0.length c0] w fun e w' => e = .returned (.int .i64 r) ∧ Below w.heap.size w w' := by
 unfold judge_Twice.f at h
 split at h
 ·rename_i ok
  obtain rfl := Option.some.inj h
  exact Fw.twice_any l0 A0 c0 w (Fw.slCopy hr0 hc0 ok)
 ·cases h
end
end Go.Proofs.Ytjblfgagafmhcaa.K
namespace Go.Proofs.Ytjblfgagafmhcaa.K
open Go.RowKit Go.Proofs.YtjblfgagafmhcaaW.PrintWords Go.Proofs.YtjblfgagafmhcaaW.PrintLast Go.Proofs.YtjblfgagafmhcaaW.PrintMore
attribute [local go_sem] max2_int min2_int max_two min_two max_three min_three max_four min_four   -- for this text's walks alone
set_option linter.unusedVariables false
set_option linter.unusedSimpArgs false
noncomputable section
open Classical in
noncomputable def footwayref20_Twice.f (l0 : List (S80)) : Option (Int) :=
 if ∀ x ∈ l0, Fw.okCopy x then some (Fw.twiceFrom l0 [] 0) else none
set_option maxHeartbeats 1000000 in
set_option maxRecDepth 100000 in
theorem footwayref20_Twice.calls (A0 : Option Addr) (c0 : Nat) (l0 : List (S80)) (r : Int) (w : World) (hr0 : Kd.C k80 w A0 l0.length l0) (hc0 : l0.length ≤ c0) (h : footwayref20_Twice.f l0 = some r) :
  Calls Try.prog 15 #[.slice A0 l0.length c0] w fun e w' => e = .returned (.int .i64 r) ∧ Below w.heap.size w w' := by
 unfold footwayref20_Twice.f at h
 split at h
 ·rename_i ok
  obtain rfl := Option.some.inj h
  exact Fw.refTwice_any l0 A0 c0 w (Fw.slCopy hr0 hc0 ok)
 ·cases h
end
end Go.Proofs.Ytjblfgagafmhcaa.K
namespace Go.Proofs.Ytjblfgagafmhcaa.K
open Go.RowKit Go.Proofs.YtjblfgagafmhcaaW.PrintWords Go.Proofs.YtjblfgagafmhcaaW.PrintLast Go.Proofs.YtjblfgagafmhcaaW.PrintMore
attribute [local go_sem] max2_int min2_int max_two min_two max_three min_three max_four min_four   -- for this text's walks alone
set_option linter.unusedVariables false
set_option linter.unusedSimpArgs false
noncomputable section
def footwaylaw20_alive.f  : Option (Bool) := (judge_Twice.f (([(⟨0, 0, 0, 0, (⟨#[120]⟩ : ByteArray)⟩ : S80), (⟨0, 1, 0, 0, (⟨#[120]⟩ : ByteArray)⟩ : S80), (⟨0, 0, 0, 0, (⟨#[120]⟩ : ByteArray)⟩ : S80)] : List (S80)))).bind fun t160 => (some (t160 == 2))
set_option maxHeartbeats 8000000 in
set_option maxRecDepth 100000 in
theorem footwaylaw20_alive.calls  (r : Bool) (w : World) (h : footwaylaw20_alive.f  = some r) :
  Calls Try.prog 16 #[] w fun e w' => e = .returned (.bool r) ∧ Below w.heap.size w w' := by
 have hu80 := Try.underlying80
 have HB := Aside0.mk (Below.refl w.heap.size w)
 have H : ((judge_Twice.f (([(⟨0, 0, 0, 0, (⟨#[120]⟩ : ByteArray)⟩ : S80), (⟨0, 1, 0, 0, (⟨#[120]⟩ : ByteArray)⟩ : S80), (⟨0, 0, 0, 0, (⟨#[120]⟩ : ByteArray)⟩ : S80)] : List (S80)))).bind fun t160 => (some (t160 == 2))) = some r := h
 clear h
 obtain ⟨y157, hy157⟩ : ∃ y_ : List (S80), y_ = (([(⟨0, 0, 0, 0, (⟨#[120]⟩ : ByteArray)⟩ : S80), (⟨0, 1, 0, 0, (⟨#[120]⟩ : ByteArray)⟩ : S80), (⟨0, 0, 0, 0, (⟨#[120]⟩ : ByteArray)⟩ : S80)] : List (S80))) := ⟨_, rfl⟩
 replace H : ((judge_Twice.f y157).bind fun t160 => (some (t160 == 2))) = some r := by first | (rw [hy157]; with_reducible exact H) | (have H2_ := (Option.bind_some _ _).symm.trans H; rw [hy157]; with_reducible exact H2_) | (have H2_ := (Option.bind_some _ _).symm.trans H; with_reducible exact H2_) | with_reducible exact H | (rw [hy157]; exact H) | exact H
 have Ny157 := Aside0.mk hy157
 clear hy157
 replace H := Option.bind_eq_some_iff.mp H
 obtain ⟨t160, A10, H⟩ := H
 replace H : (some (t160 == 2)) = some r := H
 have A1 := Aside0.mk A10
 clear A10
 obtain rfl := Option.some.inj H
 go_enter Try.func16, Try.ntmps16
 go_wp2_with (first | ((with_reducible refine gate_dst (N := 4) rfl ?_); refine Kd.R_lit k80 _ 80 ?hg (N := 4) ?hd (xs := ([(⟨0, 0, 0, 0, (⟨#[120]⟩ : ByteArray)⟩ : S80), (⟨0, 1, 0, 0, (⟨#[120]⟩ : ByteArray)⟩ : S80), (⟨0, 0, 0, 0, (⟨#[120]⟩ : ByteArray)⟩ : S80)] : List (S80))) (inner := [.int .i64 0, .int .i64 0, .int .i64 0, .int .i64 0, .string (⟨#[120]⟩ : ByteArray), .int .i64 0, .int .i64 1, .int .i64 0, .int .i64 0, .string (⟨#[120]⟩ : ByteArray), .int .i64 0, .int .i64 0, .int .i64 0, .int .i64 0, .string (⟨#[120]⟩ : ByteArray)]) (ok := fun _ => True) (okp := fun _ => True) ?hr ?hp (fun _ hk => hk) trivial (Below.refl _ _) (Nat.le_refl _) (by simp) ?_; (case hd => rfl); (case hg => rfl); (case hr => first | (go_simp; done) | (go_simp; rfl)); (case hp => exact (Reps.c5 (show Kd.M k80 _ _ _ (⟨0, 0, 0, 0, (⟨#[120]⟩ : ByteArray)⟩ : S80) [.int .i64 0, .int .i64 0, .int .i64 0, .int .i64 0, .string (⟨#[120]⟩ : ByteArray)] from (k80_mkM _ _ _ (⟨0, 0, 0, 0, (⟨#[120]⟩ : ByteArray)⟩ : S80) )) (Reps.c5 (show Kd.M k80 _ _ _ (⟨0, 1, 0, 0, (⟨#[120]⟩ : ByteArray)⟩ : S80) [.int .i64 0, .int .i64 1, .int .i64 0, .int .i64 0, .string (⟨#[120]⟩ : ByteArray)] from (k80_mkM _ _ _ (⟨0, 1, 0, 0, (⟨#[120]⟩ : ByteArray)⟩ : S80) )) (Reps.c5 (show Kd.M k80 _ _ _ (⟨0, 0, 0, 0, (⟨#[120]⟩ : ByteArray)⟩ : S80) [.int .i64 0, .int .i64 0, .int .i64 0, .int .i64 0, .string (⟨#[120]⟩ : ByteArray)] from (k80_mkM _ _ _ (⟨0, 0, 0, 0, (⟨#[120]⟩ : ByteArray)⟩ : S80) )) (Reps.none _ _))))); intro v158 w2 ho3 hb hg_ hnew_; clear hg_ hnew_; (first | rw [← Ny157.out] at ho3 | (simp only [Int.reduceToNat] at ho3; rw [← Ny157.out] at ho3)); have n0_ := Aside0.mk (Kd.R_lower ho3 (below_size (by repeat (first | (with_reducible first | exact HB.out | apply below_alloc | apply pw_below_drewN | apply below_drew1) | exact HB.out)))); have n1_ := Aside0.mk (below_step (by repeat (first | (with_reducible first | exact HB.out | apply below_alloc | apply pw_below_drewN | apply below_drew1) | exact HB.out)) hb); clear HB; have HO159 := n0_; have HB := n1_; clear n0_ n1_; clear hb ho3; obtain ⟨Ao4, co4, eo4⟩ := Kd.R_slice HO159.out; subst eo4) | ((with_reducible refine gate_callee (f := 14) rfl ?_); refine goesL_ (some 5) rfl rfl Try.func14 (by kernel_rfl) rfl #[.slice Ao4 y157.length co4] rfl (by (try simp only [List.map_toArray, List.map_cons, List.map_nil]); first | done | rfl | (simp only [List.length_drop, List.length_take]; rfl)) ?_; (with_reducible refine (judge_Twice.calls _ _ y157 t160 _ ?side1 ?side2 A1.out).mono ?_); (case side1 => repeat (first | exact (Kd.R_reads' HO159.out).2.2 | (with_reducible refine Kd.C_alloc ?_ _) | (with_reducible refine Kd.C_drewN ?_ _) | (with_reducible refine Kd.C_drew ?_))); (case side2 => exact (Kd.R_reads' HO159.out).2.1); rintro e w5 ⟨rfl, hb⟩; refine ⟨_, rfl, ?_⟩; have n0_ := Aside0.mk (Kd.R_below (by (with_reducible repeat (first | apply Kd.R_alloc | apply Kd.R_drewN | apply Kd.R_drew)); exact HO159.out) hb); have n1_ := Aside0.mk (below_step (by repeat (first | (with_reducible first | exact HB.out | apply below_alloc | apply pw_below_drewN | apply below_drew1) | exact HB.out)) hb); clear HO159; clear HB; have HO159 := n0_; have HB := n1_; clear n0_ n1_; (try clear hb); (try clear hb2); (try clear hk); (try clear hi)))
 go_ret
 exact ⟨by first | rfl | (simp [errW_none, errW_some] <;> rfl) | (simp [*, errW_none, errW_some] <;> rfl), by repeat (first | (with_reducible first | exact HB.out | apply below_alloc | apply pw_below_drewN | apply below_drew1) | exact HB.out)⟩
end
end Go.Proofs.Ytjblfgagafmhcaa.K
namespace Go.Proofs.Ytjblfgagafmhcaa.K
open Go.RowKit Go.Proofs.YtjblfgagafmhcaaW.PrintWords Go.Proofs.YtjblfgagafmhcaaW.PrintLast Go.Proofs.YtjblfgagafmhcaaW.PrintMore
attribute [local go_sem] max2_int min2_int max_two min_two max_three min_three max_four min_four   -- for this text's walks alone
set_option linter.unusedVariables false
set_option linter.unusedSimpArgs false
noncomputable section
open Classical in
noncomputable def footwayref20_Segs.f (l0 : List (S80)) (a1 : Int) : Option (Bool) :=
 if ∀ x ∈ l0, Fw.okCopy x then some (l0.all (Fw.segOk a1)) else none
set_option maxHeartbeats 1000000 in
set_option maxRecDepth 100000 in
theorem footwayref20_Segs.calls (A0 : Option Addr) (c0 : Nat) (l0 : List (S80)) (a1 : Int) (r : Bool) (w : World) (hr0 : Kd.C k80 w A0 l0.length l0) (hc0 : l0.length ≤ c0) (h : footwayref20_Segs.f l0 a1 = some r) :
  Calls Try.prog 17 #[.slice A0 l0.length c0, .int .i64 a1] w fun e w' => e = .returned (.bool r) ∧ Below w.heap.size w w' := by
 unfold footwayref20_Segs.f at h
 split at h
 ·rename_i ok
  obtain rfl := Option.some.inj h
  exact Fw.refSegs_any l0 a1 A0 c0 w (Fw.slCopy hr0 hc0 ok)
 ·cases h
end
end Go.Proofs.Ytjblfgagafmhcaa.K
