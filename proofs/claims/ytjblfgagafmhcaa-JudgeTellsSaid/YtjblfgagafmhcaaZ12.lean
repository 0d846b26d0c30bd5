/- Part 12 of the proof of one statement: what is written for it by hand and by a program of this seat's, over the given program's form. Conditions: none. -/
import Derived.Test.YtjblfgagafmhcaaZ11
import Derived.Test.YtjblfgagafmhcaaZ6
import Derived.Deep.RegionHeld3
import Derived.Test.YtjblfgagafmhcaaZ7
set_option linter.unusedVariables false
set_option linter.unusedSimpArgs false
namespace Go.Proofs.Ytjblfgagafmhcaa.Fw
open Go.RowKit
theorem ext_list (s : ByteArray) (a b : Nat) (h : a ≤ b) (hb : b ≤ s.size) : (s.extract a b).data.toList = (s.data.toList.drop a).take (b - a) := by
  rw [Lib.extract_data]
set_option maxHeartbeats 1500000 in
set_option maxRecDepth 100000 in
theorem refParse_ok (s : ByteArray) (w : World) (h1 : 14 ≤ s.size) (h2 : s.size ≤ 114) : Calls Try.prog 92 #[.string s] w fun e w' => e = .returned (.tuple #[frameV (parseF s).1, .int .i64 (parseF s).2]) ∧ Below w.heap.size w w' := by
  have hsA : (s.extract 0 6).size = 6 := by simp [ByteArray.size_extract]; omega
  have hsB : (s.extract 6 12).size = 6 := by simp [ByteArray.size_extract]; omega
  have hz : (12 : Int) < (s.size : Int) ∧ (13 : Int) < (s.size : Int) ∧ (6 : Int) ≤ (s.size : Int) ∧ (12 : Int) ≤ (s.size : Int) ∧ (14 : Int) ≤ (s.size : Int) := by omega
  have hn : 12 < s.size ∧ 13 < s.size ∧ 6 ≤ s.size ∧ 12 ≤ s.size := by omega
  obtain ⟨z1, z2, z3, z4, z5⟩ := hz
  obtain ⟨n1, n2, n3, n4⟩ := hn
  have hb12 := (s[12]'n1).toNat_lt
  have hb13 := (s[13]'n2).toNat_lt
  have hfo : frameOf s.data.toList = ⟨ofBytes (s.data.toList.take 6), ofBytes ((s.data.toList.drop 6).take 6), 256 * ((s[12]'n1).toNat : Int) + ((s[13]'n2).toNat : Int), s.extract 14 s.size⟩ := by
    unfold frameOf
    congr 1
    · have e12 : s.data.toList.getD 12 0 = s[12]'n1 := by rw [List.getD_eq_getElem?_getD, List.getElem?_eq_getElem (by simpa using n1)]; rfl
      have e13 : s.data.toList.getD 13 0 = s[13]'n2 := by rw [List.getD_eq_getElem?_getD, List.getElem?_eq_getElem (by simpa using n2)]; rfl
      rw [e12, e13, Int.mul_comm]; rfl
    · have := ext_list s 14 s.size h1 (Nat.le_refl _)
      rw [List.take_of_length_le (by rw [List.length_drop]; simp)] at this
      rw [← this]
  have HFO := Lib.hid hfo
  have hds : (frameOf s.data.toList).data.size ≤ 9223372036854775807 := by rw [hfo]; show (s.extract 14 s.size).size ≤ 9223372036854775807; rw [ByteArray.size_extract]; omega
  have HDS := Lib.hid hds
  have hpa : parseF s = if frameOk (frameOf s.data.toList) then (frameOf s.data.toList, 0) else (noFrame, 10) := by unfold parseF; rw [if_neg (by omega), if_neg (by omega)]
  have HPA := Lib.hid hpa
  have SA := Lib.hid hsA
  have SB := Lib.hid hsB
  clear hfo hds hpa hsA hsB
  go_enter Try.func92, Try.ntmps92
  go_wp2_with fail
  focus (refine wp_region_any (by kernel_rfl) ?_; (try (change wpAny _ _ _ _ _ _ _ (World.drew _))); (refine wpAny_take (i := 0) (v := ?_) rfl (by kernel_rfl) (by kernel_rfl) (by kernel_rfl) (fun _ _ _ h => h) (Or.inl ⟨by rfl, ?_⟩) ?_; rotate_left 1; (intro w; go_simp; try (with_reducible rfl))); (refine wpAny_take (i := 1) (v := ?_) rfl (by kernel_rfl) (by kernel_rfl) (by kernel_rfl) (fun _ _ _ h => h) (Or.inl ⟨by rfl, ?_⟩) ?_; rotate_left 1; (intro w; go_simp; try (with_reducible rfl))); (refine wpAny_take (i := 3) (v := ?_) rfl (by kernel_rfl) (by kernel_rfl) (by kernel_rfl) (fun _ _ _ h => h) (Or.inl ⟨by rfl, ?_⟩) ?_; rotate_left 1; (intro w; go_simp; try (with_reducible rfl))); (refine wpAny_take (i := 4) (v := ?_) rfl (by kernel_rfl) (by kernel_rfl) (by kernel_rfl) (fun _ _ _ h => h) (Or.inl ⟨by rfl, ?_⟩) ?_; rotate_left 1; (intro w; go_simp; try (with_reducible rfl))); (refine wpAny_take (i := 6) (v := ?_) rfl (by kernel_rfl) (by kernel_rfl) (by kernel_rfl) (fun _ _ _ h => h) (Or.inl ⟨by rfl, ?_⟩) ?_; rotate_left 1; (intro w; go_simp; try (with_reducible rfl))); (refine wpAny_take (i := 7) (v := ?_) rfl (by kernel_rfl) (by kernel_rfl) (by kernel_rfl) (fun _ _ _ h => h) (Or.inl ⟨by rfl, ?_⟩) ?_; rotate_left 1; (intro w; go_simp; try (with_reducible rfl))); (refine wpAny_take (i := 8) (v := ?_) rfl (by kernel_rfl) (by kernel_rfl) (by kernel_rfl) (fun _ _ _ h => h) (Or.inl ⟨by rfl, ?_⟩) ?_; rotate_left 1; (intro w; go_simp; try (with_reducible rfl))); (refine wpAny_take (i := 9) (v := ?_) rfl (by kernel_rfl) (by kernel_rfl) (by kernel_rfl) (fun _ _ _ h => h) (Or.inl ⟨by rfl, ?_⟩) ?_; rotate_left 1; (intro w; go_simp; try (with_reducible rfl))); (refine wpAny_take (i := 10) (v := ?_) rfl (by kernel_rfl) (by kernel_rfl) (by kernel_rfl) (fun _ _ _ h => h) (Or.inl ⟨by rfl, ?_⟩) ?_; rotate_left 1; (intro w; go_simp; try (with_reducible rfl))); (refine wpAny_take (i := 11) (v := ?_) rfl (by kernel_rfl) (by kernel_rfl) (by kernel_rfl) (fun _ _ _ h => h) (Or.inl ⟨by rfl, ?_⟩) ?_; rotate_left 1; (intro w; go_simp; try (with_reducible rfl))); (refine wpAny_take (i := 12) (v := ?_) rfl (by kernel_rfl) (by kernel_rfl) (by kernel_rfl) (fun _ _ _ h => h) (Or.inl ⟨by rfl, ?_⟩) ?_; rotate_left 1; (intro w; go_simp; try (with_reducible rfl))); (refine wpAny_take (i := 13) (v := ?_) rfl (by kernel_rfl) (by kernel_rfl) (by kernel_rfl) (fun _ _ _ h => h) (Or.inl ⟨by rfl, ?_⟩) ?_; rotate_left 1; (intro w; go_simp; try (with_reducible rfl))); (refine wpAny_take (i := 14) (v := ?_) rfl (by kernel_rfl) (by kernel_rfl) (by kernel_rfl) (fun _ _ _ h => h) (Or.inl ⟨by rfl, ?_⟩) ?_; rotate_left 1; (intro w; go_simp; try (with_reducible rfl))); (refine wpAny_take (i := 15) (v := ?_) rfl (by kernel_rfl) (by kernel_rfl) (by kernel_rfl) (fun _ _ _ h => h) (Or.inl ⟨by rfl, ?_⟩) ?_; rotate_left 1; (intro w; go_simp; try (with_reducible rfl))); refine wpAny_ready (rs := [2, 17]) (by kernel_rfl) (by simp) ?_; (refine AllReady.cons rfl (fun K hK => ?_) ?_); (go_simp; (first | (refine hK _ _ ?_; clear hK K) | (go_wp2_with (go_at_call 125; refine (refOf_any _ _ (by rw [ByteArray.size_extract]; omega)).mono ?_; rintro e w' ⟨rfl, rfl⟩)))); refine wpAny_ready (rs := [5, 17]) (by kernel_rfl) (by simp) ?_; (refine AllReady.cons rfl (fun K hK => ?_) ?_); (go_simp; (first | (refine hK _ _ ?_; clear hK K) | (go_wp2_with (go_at_call 125; refine (refOf_any _ _ (by rw [ByteArray.size_extract]; omega)).mono ?_; rintro e w' ⟨rfl, rfl⟩)))); (refine wpAny_take (i := 16) (v := ?_) rfl (by kernel_rfl) (by kernel_rfl) (by kernel_rfl) (fun _ _ _ h => h) (Or.inl ⟨by rfl, ?_⟩) ?_; rotate_left 1; (intro w; go_simp; try (with_reducible rfl))); refine wpAny_ready (rs := [17]) (by kernel_rfl) (by simp) ?_; (refine AllReady.cons rfl (fun K hK => ?_) ?_); (go_simp; (first | (refine hK _ _ ?_; clear hK K) | (go_wp2_with (go_at_call 125; refine (refOf_any _ _ (by rw [ByteArray.size_extract]; omega)).mono ?_; rintro e w' ⟨rfl, rfl⟩)))); refine wpAny_ready (rs := [18]) (by kernel_rfl) (by simp) ?_; (refine AllReady.cons rfl (fun K hK => ?_) ?_); (go_simp; (first | (refine hK _ _ ?_; clear hK K) | (go_wp2_with (go_at_call 125; refine (refOf_any _ _ (by rw [ByteArray.size_extract]; omega)).mono ?_; rintro e w' ⟨rfl, rfl⟩)))); (refine wpAny_done (by kernel_rfl) ?_ _); rotate_left 1; exact AllReady.nil; exact AllReady.nil; (refine AllReady.cons rfl (fun K hK => ?_) ?_); (go_simp; (first | (refine hK _ _ ?_; clear hK K) | (go_wp2_with (go_at_call 125; refine (refOf_any _ _ (by rw [ByteArray.size_extract]; omega)).mono ?_; rintro e w' ⟨rfl, rfl⟩)))); refine wpAny_ready (rs := [5]) (by kernel_rfl) (by simp) ?_; (refine AllReady.cons rfl (fun K hK => ?_) ?_); (go_simp; (first | (refine hK _ _ ?_; clear hK K) | (go_wp2_with (go_at_call 125; refine (refOf_any _ _ (by rw [ByteArray.size_extract]; omega)).mono ?_; rintro e w' ⟨rfl, rfl⟩)))); (refine wpAny_take (i := 16) (v := ?_) rfl (by kernel_rfl) (by kernel_rfl) (by kernel_rfl) (fun _ _ _ h => h) (Or.inl ⟨by rfl, ?_⟩) ?_; rotate_left 1; (intro w; go_simp; try (with_reducible rfl))); refine wpAny_ready (rs := [18]) (by kernel_rfl) (by simp) ?_; (refine AllReady.cons rfl (fun K hK => ?_) ?_); (go_simp; (first | (refine hK _ _ ?_; clear hK K) | (go_wp2_with (go_at_call 125; refine (refOf_any _ _ (by rw [ByteArray.size_extract]; omega)).mono ?_; rintro e w' ⟨rfl, rfl⟩)))); (refine wpAny_done (by kernel_rfl) ?_ _); rotate_left 1; exact AllReady.nil; exact AllReady.nil; exact AllReady.nil; (refine AllReady.cons rfl (fun K hK => ?_) ?_); (go_simp; (first | (refine hK _ _ ?_; clear hK K) | (go_wp2_with (go_at_call 125; refine (refOf_any _ _ (by rw [ByteArray.size_extract]; omega)).mono ?_; rintro e w' ⟨rfl, rfl⟩)))); refine wpAny_ready (rs := [2]) (by kernel_rfl) (by simp) ?_; (refine AllReady.cons rfl (fun K hK => ?_) ?_); (go_simp; (first | (refine hK _ _ ?_; clear hK K) | (go_wp2_with (go_at_call 125; refine (refOf_any _ _ (by rw [ByteArray.size_extract]; omega)).mono ?_; rintro e w' ⟨rfl, rfl⟩)))); refine wpAny_ready (rs := [5]) (by kernel_rfl) (by simp) ?_; (refine AllReady.cons rfl (fun K hK => ?_) ?_); (go_simp; (first | (refine hK _ _ ?_; clear hK K) | (go_wp2_with (go_at_call 125; refine (refOf_any _ _ (by rw [ByteArray.size_extract]; omega)).mono ?_; rintro e w' ⟨rfl, rfl⟩)))); (refine wpAny_take (i := 16) (v := ?_) rfl (by kernel_rfl) (by kernel_rfl) (by kernel_rfl) (fun _ _ _ h => h) (Or.inl ⟨by rfl, ?_⟩) ?_; rotate_left 1; (intro w; go_simp; try (with_reducible rfl))); refine wpAny_ready (rs := [18]) (by kernel_rfl) (by simp) ?_; (refine AllReady.cons rfl (fun K hK => ?_) ?_); (go_simp; (first | (refine hK _ _ ?_; clear hK K) | (go_wp2_with (go_at_call 125; refine (refOf_any _ _ (by rw [ByteArray.size_extract]; omega)).mono ?_; rintro e w' ⟨rfl, rfl⟩)))); (refine wpAny_done (by kernel_rfl) ?_ _); rotate_left 1; exact AllReady.nil; exact AllReady.nil; exact AllReady.nil; exact AllReady.nil)
  all_goals
    cases hok : frameOk (frameOf s.data.toList)
    all_goals
      have HOK := Lib.hid hok
      clear hok
      go_wp2_with fail
      refine (refFrameRight_any ⟨ofBytes (s.data.toList.take 6), ofBytes ((s.data.toList.drop 6).take 6), 256 * ((s[12]'n1).toNat : Int) + ((s[13]'n2).toNat : Int), s.extract 14 s.size⟩ _ (by have := HDS.out; rw [HFO.out] at this; exact this)).mono ?_
      rw [← HFO.out, HOK.out]
      rintro e w2 ⟨rfl, hb2⟩
      have k0 : w2.heap[w.heap.size]? = _ := blk_below (show ((w.alloc _).alloc _).drew.heap[w.heap.size]? = _ from blk_alloc (blk_new w _) _) hb2
      have k1 := blk_below (show ((w.alloc _).alloc _).drew.heap[(w.alloc _).heap.size]? = _ from blk_new (w.alloc _) _) hb2
      rw [World.size_alloc] at k1
      obtain ⟨r0, r1, r2, r3⟩ := blk4 k0
      have z0 := blk_free (i := 0) k0
      have z1 := blk_free (i := 1) k0
      have z2 := blk_free (i := 2) k0
      have z3 := blk_free (i := 3) k0
      obtain ⟨y0, y1, y2, y3⟩ := blk4 k1
      have hb3 := Lib.hid (show Below w.heap.size w w2 from (below2 w _ _).drew.trans (hb2.mono (below2 w _ _).size))
      clear k0 k1 hb2
    · go_wp2
      have hp := HPA.out
      rw [HOK.out, if_neg (by simp)] at hp
      rw [hp]
      exact bodyPost_ret (v := .tuple #[frameV noFrame, .int .i64 10]) (by simp [results, Try.results92, go_sem, frameV, noFrame, r0, r1, r2, r3]) rfl ⟨rfl, (((hb3.out.setCell (Nat.le_refl _) _).setCell (Nat.le_refl _) _).setCell (Nat.le_refl _) _).setCell (Nat.le_refl _) _⟩
    · go_wp2
      have hp := HPA.out
      rw [HOK.out, if_pos rfl] at hp
      rw [hp, HFO.out]
      exact bodyPost_ret (v := .tuple #[frameV ⟨ofBytes (s.data.toList.take 6), ofBytes ((s.data.toList.drop 6).take 6), 256 * ((s[12]'n1).toNat : Int) + ((s[13]'n2).toNat : Int), s.extract 14 s.size⟩, .int .i64 0]) (by simp [results, Try.results92, go_sem, frameV, r0, r1, r2, r3]) rfl ⟨rfl, (((hb3.out.setCell (Nat.le_refl _) _).setCell (Nat.le_refl _) _).setCell (Nat.le_refl _) _).setCell (Nat.le_refl _) _⟩
theorem refParse_any (s : ByteArray) (w : World) (hm : s.size ≤ 9223372036854775807) : Calls Try.prog 92 #[.string s] w fun e w' => e = .returned (.tuple #[frameV (parseF s).1, .int .i64 (parseF s).2]) ∧ Below w.heap.size w w' := by
  by_cases h : s.size < 14 ∨ 114 < s.size
  · exact refParse_bad s w hm h
  · exact refParse_ok s w (by omega) (by omega)
theorem parse_any (s : ByteArray) (w : World) (hm : s.size ≤ 9223372036854775807) : Calls Try.prog 88 #[.string s] w fun e w' => e = .returned (.tuple #[frameV (parseF s).1, .int .i64 (parseF s).2]) ∧ Below w.heap.size w w' := by
  by_cases h : s.size < 14 ∨ 114 < s.size
  · exact parse_bad s w hm h
  · exact parse_ok s w (by omega) (by omega)
end Go.Proofs.Ytjblfgagafmhcaa.Fw
namespace Go.Proofs.Ytjblfgagafmhcaa.K
open Go.RowKit Go.Proofs.YtjblfgagafmhcaaW.PrintWords Go.Proofs.YtjblfgagafmhcaaW.PrintLast Go.Proofs.YtjblfgagafmhcaaW.PrintMore
attribute [local go_sem] max2_int min2_int max_two min_two max_three min_three max_four min_four   -- for this text's walks alone
set_option linter.unusedVariables false
set_option linter.unusedSimpArgs false
noncomputable section
def footwayref06_Has.l0 : Nat → Int → List Int → Int → Int → Option (Bool)
 | 0, _, _, _, _ => none
 | k + 1, x1, x7, x8, x9 => if x9 < x8 then (if 0 ≤ x9 then (if x9 < (x7.length : Int) then (if (rd x7 x9) = x1 then (some true) else (footwayref06_Has.l0 k x1 x7 x8 (wrap64 (x9 + 1)))) else (none)) else (none)) else (some false)
def footwayref06_Has.f (k : Nat) (l0 : List Int) (a1 : Int) : Option (Bool) := footwayref06_Has.l0 k a1 l0 (l0.length : Int) 0
theorem footwayref06_Has.mono_l : ∀ k, (∀ y0 y1 y2 y3, LeO (footwayref06_Has.l0 k y0 y1 y2 y3) (footwayref06_Has.l0 (k + 1) y0 y1 y2 y3))
 | 0 => fun _ _ _ _ r h => by simp [footwayref06_Has.l0] at h
 | k + 1 => by
  have ih0 := footwayref06_Has.mono_l k
  ·intro y0 y1 y2 y3
   unfold footwayref06_Has.l0
   repeat' first
   | (with_reducible exact ih0 _ _ _ _)
   | (with_reducible exact LeO.refl _)
   | (with_reducible exact LeO.none _)
   | (with_reducible refine LeO.ite ?_ ?_)
   | (with_reducible refine LeO.bind ?_ (fun _ => ?_))
   | exact ih0 _ _ _ _
   | exact LeO.none _
   | refine LeO.ite ?_ ?_
   | refine LeO.bind ?_ (fun _ => ?_)
theorem footwayref06_Has.mono : ∀ a0 a1 k, LeO (footwayref06_Has.f k a0 a1) (footwayref06_Has.f (k + 1) a0 a1) := by
 intro a0 a1 k
 have ih0 := footwayref06_Has.mono_l k
 unfold footwayref06_Has.f
 repeat' first
   | (with_reducible exact ih0 _ _ _ _)
   | (with_reducible exact LeO.refl _)
   | (with_reducible exact LeO.none _)
   | (with_reducible refine LeO.ite ?_ ?_)
   | (with_reducible refine LeO.bind ?_ (fun _ => ?_))
   | exact ih0 _ _ _ _
   | exact LeO.none _
   | refine LeO.ite ?_ ?_
   | refine LeO.bind ?_ (fun _ => ?_)
set_option maxHeartbeats 8000000 in
set_option maxRecDepth 100000 in
theorem footwayref06_Has.calls (k : Nat) (A0 : Option Addr) (c0 : Nat) (l0 : List Int) (a1 : Int) (r : Bool) (w : World) (hr0 : Kd.C (Kd.int .i64) w A0 l0.length l0) (hc0 : l0.length ≤ c0) (h : footwayref06_Has.f k l0 a1 = some r) :
  Calls Try.prog 44 #[.slice A0 l0.length c0, .int .i64 a1] w fun e w' => e = .returned (.bool r) ∧ Drawn0 w w' := by
 have HR0 := Aside0.mk hr0
 have HC0 := Aside0.mk hc0
 clear hr0 hc0
 have H : (footwayref06_Has.l0 k a1 l0 (l0.length : Int) 0) = some r := h
 clear h
 have H' := Aside0.mk H
 clear H
 go_enter Try.func44, Try.ntmps44
 go_wp2
 go_loopg [9] k (fun kq v9 w' => ∃ (x9_1 : Int), v9 = .int .i64 x9_1 ∧ Aside0 (footwayref06_Has.l0 kq a1 l0 (l0.length : Int) x9_1 = some r) ∧ Aside0 (kq ≤ k) ∧ Drawn0 w w')
 case atStart => exact ⟨(0), (by first | rfl | (simp; done) | (simp [*]; done)), H', ⟨Nat.le_refl _⟩, by repeat (first | exact Drawn0.refl _ | apply Drawn0.step)⟩
 case round =>
  clear H'
  try clear p2
  obtain ⟨x9_1, rfl, HA, HK1, ⟨m1, rfl⟩⟩ := hrel
  cases gk with
  | zero => exact absurd HA.out (by simp [footwayref06_Has.l0])
  | succ k1 =>
   have H := HA.out
   clear HA
   simp only [footwayref06_Has.l0] at H
   by_cases c3 : x9_1 < (l0.length : Int)
   ·rw [if_pos c3] at H
    have c3b0 : decide (x9_1 < (l0.length : Int)) = true := decide_eq_true c3
    clear c3
    by_cases c4 : 0 ≤ x9_1
    ·rw [if_pos c4] at H
     have c4b0 : decide (0 ≤ x9_1) = true := decide_eq_true c4
     clear c4
     by_cases c5 : x9_1 < (l0.length : Int)
     ·rw [if_pos c5] at H
      have c5b0 : decide (x9_1 < (l0.length : Int)) = true := decide_eq_true c5
      clear c5
      by_cases c6 : (rd l0 x9_1) = a1
      ·rw [if_pos c6] at H
       have c6b0 : ((rd l0 x9_1) == a1) = true := beq_iff_eq.mpr c6
       have c6b1 : ((rd l0 x9_1) != a1) = false := bne_eq_false_iff_eq.mpr c6
       clear c6
       obtain rfl := Option.some.inj H
       have p194 : 0 ≤ (x9_1 : Int) := of_decide_eq_true (by first | (with_reducible assumption) | assumption)
       have q194 : x9_1 < (l0.length : Int) := of_decide_eq_true (by first | (with_reducible assumption) | assumption)
       obtain ⟨ad194, e194, hx194_0⟩ := Kd.at_int HR0.out x9_1 p194 q194
       cases e194
       replace p194 := eq_true p194
       replace q194 := eq_true q194
       go_wp2
       go_ret
       exact ⟨by first | rfl | (simp; done) | (simp [*]; done), by repeat (first | exact Drawn0.refl _ | apply Drawn0.step)⟩
      ·rw [if_neg c6] at H
       have c6b0 : ((rd l0 x9_1) == a1) = false := beq_eq_false_iff_ne.mpr c6
       have c6b1 : ((rd l0 x9_1) != a1) = true := bne_iff_ne.mpr c6
       have H' := Aside0.mk H
       clear H
       have p194 : 0 ≤ (x9_1 : Int) := of_decide_eq_true (by first | (with_reducible assumption) | assumption)
       have q194 : x9_1 < (l0.length : Int) := of_decide_eq_true (by first | (with_reducible assumption) | assumption)
       obtain ⟨ad194, e194, hx194_0⟩ := Kd.at_int HR0.out x9_1 p194 q194
       cases e194
       replace p194 := eq_true p194
       replace q194 := eq_true q194
       go_wp2
       go_roundg k1
       case measure => have := HK1.out; omega
       case rel => exact ⟨(wrap64 (x9_1 + 1)), (by first | rfl | (simp; done) | (simp [*]; done)), H', ⟨by have := HK1.out; omega⟩, by repeat (first | exact Drawn0.refl _ | apply Drawn0.step)⟩
     ·rw [if_neg c5] at H
      exact absurd H (by simp)
    ·rw [if_neg c4] at H
     exact absurd H (by simp)
   ·rw [if_neg c3] at H
    have c3b0 : decide (x9_1 < (l0.length : Int)) = false := decide_eq_false c3
    clear c3
    obtain rfl := Option.some.inj H
    go_wp2
    go_ret
    exact ⟨by first | rfl | (simp; done) | (simp [*]; done), by repeat (first | exact Drawn0.refl _ | apply Drawn0.step)⟩
end
end Go.Proofs.Ytjblfgagafmhcaa.K
namespace Go.Proofs.Ytjblfgagafmhcaa.K
open Go.RowKit Go.Proofs.YtjblfgagafmhcaaW.PrintWords Go.Proofs.YtjblfgagafmhcaaW.PrintLast Go.Proofs.YtjblfgagafmhcaaW.PrintMore
attribute [local go_sem] max2_int min2_int max_two min_two max_three min_three max_four min_four   -- for this text's walks alone
set_option linter.unusedVariables false
set_option linter.unusedSimpArgs false
noncomputable section
def footwayref06_Same.l0 : Nat → List Int → List Int → Int → Int → Option (Bool)
 | 0, _, _, _, _ => none
 | k + 1, x0, x1, x12, x13 => if x13 < x12 then (if 0 ≤ x13 then (if x13 < (x0.length : Int) then (if x13 < (x1.length : Int) then (if (rd x0 x13) = (rd x1 x13) then (footwayref06_Same.l0 k x0 x1 x12 (wrap64 (x13 + 1))) else (some false)) else (none)) else (none)) else (none)) else (some true)
def footwayref06_Same.f (k : Nat) (l0 : List Int) (l1 : List Int) : Option (Bool) := if (l0.length : Int) = (l1.length : Int) then (footwayref06_Same.l0 k l0 l1 (l0.length : Int) 0) else (some false)
theorem footwayref06_Same.mono_l : ∀ k, (∀ y0 y1 y2 y3, LeO (footwayref06_Same.l0 k y0 y1 y2 y3) (footwayref06_Same.l0 (k + 1) y0 y1 y2 y3))
 | 0 => fun _ _ _ _ r h => by simp [footwayref06_Same.l0] at h
 | k + 1 => by
  have ih0 := footwayref06_Same.mono_l k
  ·intro y0 y1 y2 y3
   unfold footwayref06_Same.l0
   repeat' first
   | (with_reducible exact ih0 _ _ _ _)
   | (with_reducible exact LeO.refl _)
   | (with_reducible exact LeO.none _)
   | (with_reducible refine LeO.ite ?_ ?_)
   | (with_reducible refine LeO.bind ?_ (fun _ => ?_))
   | exact ih0 _ _ _ _
   | exact LeO.none _
   | refine LeO.ite ?_ ?_
   | refine LeO.bind ?_ (fun _ => ?_)
theorem footwayref06_Same.mono : ∀ a0 a1 k, LeO (footwayref06_Same.f k a0 a1) (footwayref06_Same.f (k + 1) a0 a1) := by
 intro a0 a1 k
 have ih0 := footwayref06_Same.mono_l k
 unfold footwayref06_Same.f
 repeat' first
   | (with_reducible exact ih0 _ _ _ _)
   | (with_reducible exact LeO.refl _)
   | (with_reducible exact LeO.none _)
   | (with_reducible refine LeO.ite ?_ ?_)
   | (with_reducible refine LeO.bind ?_ (fun _ => ?_))
   | exact ih0 _ _ _ _
   | exact LeO.none _
   | refine LeO.ite ?_ ?_
   | refine LeO.bind ?_ (fun _ => ?_)
set_option maxHeartbeats 8000000 in
set_option maxRecDepth 100000 in
theorem footwayref06_Same.calls (k : Nat) (A0 : Option Addr) (c0 : Nat) (l0 : List Int) (A1 : Option Addr) (c1 : Nat) (l1 : List Int) (r : Bool) (w : World) (hr0 : Kd.C (Kd.int .i64) w A0 l0.length l0) (hc0 : l0.length ≤ c0) (hr1 : Kd.C (Kd.int .i64) w A1 l1.length l1) (hc1 : l1.length ≤ c1) (h : footwayref06_Same.f k l0 l1 = some r) :
  Calls Try.prog 18 #[.slice A0 l0.length c0, .slice A1 l1.length c1] w fun e w' => e = .returned (.bool r) ∧ Drawn0 w w' := by
 have HR0 := Aside0.mk hr0
 have HC0 := Aside0.mk hc0
 clear hr0 hc0
 have HR1 := Aside0.mk hr1
 have HC1 := Aside0.mk hc1
 clear hr1 hc1
 have H : (if (l0.length : Int) = (l1.length : Int) then (footwayref06_Same.l0 k l0 l1 (l0.length : Int) 0) else (some false)) = some r := h
 clear h
 by_cases c3 : (l0.length : Int) = (l1.length : Int)
 ·rw [if_pos c3] at H
  have c3b0 : ((l0.length : Int) == (l1.length : Int)) = true := beq_iff_eq.mpr c3
  have c3b1 : ((l0.length : Int) != (l1.length : Int)) = false := bne_eq_false_iff_eq.mpr c3
  have c3b2 : (l0.length == l1.length) = true := by first | simpa using c3 | (simp at c3 ⊢; omega)
  clear c3
  have H' := Aside0.mk H
  clear H
  go_enter Try.func18, Try.ntmps18
  go_wp2
  repeat (go_quiet (fail); try go_wp2)
  go_loopg [13] k (fun kq v13 w' => ∃ (x13_1 : Int), v13 = .int .i64 x13_1 ∧ Aside0 (footwayref06_Same.l0 kq l0 l1 (l0.length : Int) x13_1 = some r) ∧ Aside0 (kq ≤ k) ∧ Drawn0 w w')
  case atStart => exact ⟨(0), (by first | rfl | (simp; done) | (simp [*]; done)), H', ⟨Nat.le_refl _⟩, by repeat (first | exact Drawn0.refl _ | apply Drawn0.step)⟩
  case round =>
   clear H'
   try clear c1
   try clear p2
   try clear c3
   try clear c3b0
   try clear c3b1
   try clear c3b2
   obtain ⟨x13_1, rfl, HA, HK1, ⟨m1, rfl⟩⟩ := hrel
   cases gk with
   | zero => exact absurd HA.out (by simp [footwayref06_Same.l0])
   | succ k1 =>
    have H := HA.out
    clear HA
    simp only [footwayref06_Same.l0] at H
    by_cases c4 : x13_1 < (l0.length : Int)
    ·rw [if_pos c4] at H
     have c4b0 : decide (x13_1 < (l0.length : Int)) = true := decide_eq_true c4
     clear c4
     by_cases c5 : 0 ≤ x13_1
     ·rw [if_pos c5] at H
      have c5b0 : decide (0 ≤ x13_1) = true := decide_eq_true c5
      clear c5
      by_cases c6 : x13_1 < (l0.length : Int)
      ·rw [if_pos c6] at H
       have c6b0 : decide (x13_1 < (l0.length : Int)) = true := decide_eq_true c6
       clear c6
       by_cases c7 : x13_1 < (l1.length : Int)
       ·rw [if_pos c7] at H
        have c7b0 : decide (x13_1 < (l1.length : Int)) = true := decide_eq_true c7
        clear c7
        by_cases c8 : (rd l0 x13_1) = (rd l1 x13_1)
        ·rw [if_pos c8] at H
         have c8b0 : ((rd l0 x13_1) == (rd l1 x13_1)) = true := beq_iff_eq.mpr c8
         have c8b1 : ((rd l0 x13_1) != (rd l1 x13_1)) = false := bne_eq_false_iff_eq.mpr c8
         clear c8
         have H' := Aside0.mk H
         clear H
         have p161 : 0 ≤ (x13_1 : Int) := of_decide_eq_true (by first | (with_reducible assumption) | assumption)
         have q161 : x13_1 < (l0.length : Int) := of_decide_eq_true (by first | (with_reducible assumption) | assumption)
         obtain ⟨ad161, e161, hx161_0⟩ := Kd.at_int HR0.out x13_1 p161 q161
         cases e161
         replace p161 := eq_true p161
         replace q161 := eq_true q161
         have p162 : 0 ≤ (x13_1 : Int) := of_decide_eq_true (by first | (with_reducible assumption) | assumption)
         have q162 : x13_1 < (l1.length : Int) := of_decide_eq_true (by first | (with_reducible assumption) | assumption)
         obtain ⟨ad162, e162, hx162_0⟩ := Kd.at_int HR1.out x13_1 p162 q162
         cases e162
         replace p162 := eq_true p162
         replace q162 := eq_true q162
         go_wp2
         repeat (go_quiet (fail); try go_wp2)
         go_roundg k1
         case measure => have := HK1.out; omega
         case rel => exact ⟨(wrap64 (x13_1 + 1)), (by first | rfl | (simp; done) | (simp [*]; done)), H', ⟨by have := HK1.out; omega⟩, by repeat (first | exact Drawn0.refl _ | apply Drawn0.step)⟩
        ·rw [if_neg c8] at H
         have c8b0 : ((rd l0 x13_1) == (rd l1 x13_1)) = false := beq_eq_false_iff_ne.mpr c8
         have c8b1 : ((rd l0 x13_1) != (rd l1 x13_1)) = true := bne_iff_ne.mpr c8
         obtain rfl := Option.some.inj H
         have p161 : 0 ≤ (x13_1 : Int) := of_decide_eq_true (by first | (with_reducible assumption) | assumption)
         have q161 : x13_1 < (l0.length : Int) := of_decide_eq_true (by first | (with_reducible assumption) | assumption)
         obtain ⟨ad161, e161, hx161_0⟩ := Kd.at_int HR0.out x13_1 p161 q161
         cases e161
         replace p161 := eq_true p161
         replace q161 := eq_true q161
         have p162 : 0 ≤ (x13_1 : Int) := of_decide_eq_true (by first | (with_reducible assumption) | assumption)
         have q162 : x13_1 < (l1.length : Int) := of_decide_eq_true (by first | (with_reducible assumption) | assumption)
         obtain ⟨ad162, e162, hx162_0⟩ := Kd.at_int HR1.out x13_1 p162 q162
         cases e162
         replace p162 := eq_true p162
         replace q162 := eq_true q162
         go_wp2
         repeat (go_quiet (fail); try go_wp2)
         go_ret
         exact ⟨by first | rfl | (simp; done) | (simp [*]; done), by repeat (first | exact Drawn0.refl _ | apply Drawn0.step)⟩
       ·rw [if_neg c7] at H
        exact absurd H (by simp)
      ·rw [if_neg c6] at H
       exact absurd H (by simp)
     ·rw [if_neg c5] at H
      exact absurd H (by simp)
    ·rw [if_neg c4] at H
     have c4b0 : decide (x13_1 < (l0.length : Int)) = false := decide_eq_false c4
     clear c4
     obtain rfl := Option.some.inj H
     go_wp2
     repeat (go_quiet (fail); try go_wp2)
     go_ret
     exact ⟨by first | rfl | (simp; done) | (simp [*]; done), by repeat (first | exact Drawn0.refl _ | apply Drawn0.step)⟩
 ·rw [if_neg c3] at H
  have c3b0 : ((l0.length : Int) == (l1.length : Int)) = false := beq_eq_false_iff_ne.mpr c3
  have c3b1 : ((l0.length : Int) != (l1.length : Int)) = true := bne_iff_ne.mpr c3
  have c3b2 : (l0.length == l1.length) = false := by first | simpa using c3 | (simp at c3 ⊢; omega)
  obtain rfl := Option.some.inj H
  go_enter Try.func18, Try.ntmps18
  go_wp2
  repeat (go_quiet (fail); try go_wp2)
  go_ret
  exact ⟨by first | rfl | (simp; done) | (simp [*]; done), by repeat (first | exact Drawn0.refl _ | apply Drawn0.step)⟩
end
end Go.Proofs.Ytjblfgagafmhcaa.K
