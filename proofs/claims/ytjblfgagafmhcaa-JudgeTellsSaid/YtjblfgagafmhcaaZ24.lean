/- Part 24 of the proof of one statement: what is written for it by hand and by a program of this seat's, over the given program's form. Conditions: none. -/
import Derived.Test.YtjblfgagafmhcaaZ7
import Derived.Test.YtjblfgagafmhcaaZ23
import Derived.Test.YtjblfgagafmhcaaZ9
set_option linter.unusedVariables false
set_option linter.unusedSimpArgs false
namespace Go.Proofs.Ytjblfgagafmhcaa.K
open Go.RowKit Go.Proofs.YtjblfgagafmhcaaW.PrintWords Go.Proofs.YtjblfgagafmhcaaW.PrintLast Go.Proofs.YtjblfgagafmhcaaW.PrintMore
attribute [local go_sem] max2_int min2_int max_two min_two max_three min_three max_four min_four   -- for this text's walks alone
set_option linter.unusedVariables false
set_option linter.unusedSimpArgs false
noncomputable section
def footwayref17_Next.l0 : Nat → List (List Bool) → Int → Int → Int → Int → Int → List (S64) → List (S91) → Option (Bool)
 | 0, _, _, _, _, _, _, _, _ => none
 | k + 1, x1, x2, x3, x12, x13, x275000, x275001, x275002 => if x13 < x12 then ((footwayref17_leads.f x275000 x275001 x275002 x1 x13 x2 x3).bind fun t275 => (if t275 = true then (some true) else (footwayref17_Next.l0 k x1 x2 x3 x12 (wrap64 (x13 + 1)) x275000 x275001 x275002))) else (some false)
def footwayref17_Next.f (k : Nat) (a0_0 : Int) (l0_1 : List (S64)) (l0_2 : List (S91)) (l1 : List (List Bool)) (a2 : Int) (a3 : Int) : Option (Bool) := footwayref17_Next.l0 k l1 a2 a3 (l0_1.length : Int) 0 a0_0 l0_1 l0_2
theorem footwayref17_Next.mono_l : ∀ k, (∀ y0 y1 y2 y3 y4 y5 y6 y7, LeO (footwayref17_Next.l0 k y0 y1 y2 y3 y4 y5 y6 y7) (footwayref17_Next.l0 (k + 1) y0 y1 y2 y3 y4 y5 y6 y7))
 | 0 => fun _ _ _ _ _ _ _ _ r h => by simp [footwayref17_Next.l0] at h
 | k + 1 => by
  have ih0 := footwayref17_Next.mono_l k
  ·intro y0 y1 y2 y3 y4 y5 y6 y7
   unfold footwayref17_Next.l0
   repeat' first
   | (with_reducible exact ih0 _ _ _ _ _ _ _ _)
   | (with_reducible exact LeO.refl _)
   | (with_reducible exact LeO.none _)
   | (with_reducible refine LeO.ite ?_ ?_)
   | (with_reducible refine LeO.bind ?_ (fun _ => ?_))
   | exact ih0 _ _ _ _ _ _ _ _
   | exact LeO.none _
   | refine LeO.ite ?_ ?_
   | refine LeO.bind ?_ (fun _ => ?_)
theorem footwayref17_Next.mono : ∀ a0 a1 a2 a3 a4 a5 k, LeO (footwayref17_Next.f k a0 a1 a2 a3 a4 a5) (footwayref17_Next.f (k + 1) a0 a1 a2 a3 a4 a5) := by
 intro a0 a1 a2 a3 a4 a5 k
 have ih0 := footwayref17_Next.mono_l k
 unfold footwayref17_Next.f
 repeat' first
   | (with_reducible exact ih0 _ _ _ _ _ _ _ _)
   | (with_reducible exact LeO.refl _)
   | (with_reducible exact LeO.none _)
   | (with_reducible refine LeO.ite ?_ ?_)
   | (with_reducible refine LeO.bind ?_ (fun _ => ?_))
   | exact ih0 _ _ _ _ _ _ _ _
   | exact LeO.none _
   | refine LeO.ite ?_ ?_
   | refine LeO.bind ?_ (fun _ => ?_)
set_option maxHeartbeats 8000000 in
set_option maxRecDepth 100000 in
theorem footwayref17_Next.calls (k : Nat) (a0_0 : Int) (A0_1 : Option Addr) (c0_1 : Nat) (l0_1 : List (S64)) (A0_2 : Option Addr) (c0_2 : Nat) (l0_2 : List (S91)) (A1 : Option Addr) (c1 : Nat) (l1 : List (List Bool)) (a2 : Int) (a3 : Int) (r : Bool) (w : World) (hr0_1 : Kd.C k64 w A0_1 l0_1.length l0_1) (hc0_1 : l0_1.length ≤ c0_1) (hr0_2 : Kd.C k91 w A0_2 l0_2.length l0_2) (hc0_2 : l0_2.length ≤ c0_2) (hr1 : Kd.C (Kd.slice 4 Kd.bool) w A1 l1.length l1) (hc1 : l1.length ≤ c1) (h : footwayref17_Next.f k a0_0 l0_1 l0_2 l1 a2 a3 = some r) :
  Calls Try.prog 124 #[.agg #[.int .i64 a0_0, .slice A0_1 l0_1.length c0_1, .slice A0_2 l0_2.length c0_2], .slice A1 l1.length c1, .int .i64 a2, .int .i64 a3] w fun e w' => e = .returned (.bool r) ∧ Below w.heap.size w w' := by
 have hu25 := Try.underlying25
 have HR0_1 := Aside0.mk hr0_1
 have HC0_1 := Aside0.mk hc0_1
 clear hr0_1 hc0_1
 have HR0_2 := Aside0.mk hr0_2
 have HC0_2 := Aside0.mk hc0_2
 clear hr0_2 hc0_2
 have HR1 := Aside0.mk hr1
 have HC1 := Aside0.mk hc1
 clear hr1 hc1
 have HB := Aside0.mk (Below.refl w.heap.size w)
 have H : (footwayref17_Next.l0 k l1 a2 a3 (l0_1.length : Int) 0 a0_0 l0_1 l0_2) = some r := h
 clear h
 have H' := Aside0.mk H
 clear H
 go_enter Try.func124, Try.ntmps124
 go_wp2_with (first | ((with_reducible refine gate_dst (N := 4) rfl ?_); refine box_event ?hg (N := 4) ?hd (cs := #[.int .i64 a0_0, .slice A0_1 l0_1.length c0_1, .slice A0_2 l0_2.length c0_2]) (t := 25) ?hr ?_; (case hd => rfl); (case hg => rfl); (case hr => first | (go_simp; done) | (go_simp; rfl)); intro gb274 hg w5 hbox hb; have n0_ := Aside0.mk (below_step (by repeat (first | (with_reducible first | exact HB.out | apply below_alloc | apply pw_below_drewN | apply below_drew1) | exact HB.out)) hb); have n1_ := Aside0.mk (hbox); have n2_ := Aside0.mk ((by rw [hg]; exact (below_size (by repeat (first | (with_reducible first | exact HB.out | apply below_alloc | apply pw_below_drewN | apply below_drew1) | exact HB.out))) : w.heap.size ≤ gb274)); have n3_ := Aside0.mk ((by rw [hg]; exact (below_size (by repeat (first | (with_reducible first | exact HB.out | apply below_alloc | apply pw_below_drewN | apply below_drew1) | exact HB.out))) : w.heap.size ≤ gb274)); clear HB; have HB := n0_; have BK274 := n1_; have GW274 := n2_; have GE274 := n3_; clear n0_ n1_ n2_ n3_; clear hb hbox hg; have hcz6_0 : w5.cell? ⟨gb274, 0, none⟩ = some (.int .i64 a0_0) := (blk_cell BK274.out 0).trans rfl; have hcz6_1 : w5.cell? ⟨gb274, 1, none⟩ = some (.slice A0_1 l0_1.length c0_1) := (blk_cell BK274.out 1).trans rfl; have hcz6_2 : w5.cell? ⟨gb274, 2, none⟩ = some (.slice A0_2 l0_2.length c0_2) := (blk_cell BK274.out 2).trans rfl; have hfz6_0 := blk_frozen BK274.out 0; have hfz6_1 := blk_frozen BK274.out 1; have hfz6_2 := blk_frozen BK274.out 2))
 go_loopg [13] k (fun kq v13 w' => ∃ (x13_1 : Int), v13 = .int .i64 x13_1 ∧ Aside0 (footwayref17_Next.l0 kq l1 a2 a3 (l0_1.length : Int) x13_1 a0_0 l0_1 l0_2 = some r) ∧ Aside0 (kq ≤ k) ∧ Aside0 (w'.heap[gb274]? = some (.cells #[.int .i64 a0_0, (.slice A0_1 l0_1.length c0_1), (.slice A0_2 l0_2.length c0_2)] 25 (0, 0))) ∧ Aside0 (Below w.heap.size w w'))
 case atStart => exact ⟨(0), (by first | rfl | (simp; done) | (simp [*]; done)), H', ⟨Nat.le_refl _⟩, ⟨by (with_reducible repeat (first | refine blk_drewN ?_ _ | refine blk_drew ?_ | refine blk_alloc ?_ _)); exact BK274.out⟩, ⟨by repeat (first | (with_reducible first | exact HB.out | apply below_alloc | apply pw_below_drewN | apply below_drew1 | refine below_set ?_ GE274.out) | exact HB.out)⟩⟩
 case round =>
  clear H'
  try clear c1
  try clear p2
  try clear hcz6_0
  try clear hcz6_1
  try clear hcz6_2
  try clear hfz6_0
  try clear hfz6_1
  try clear hfz6_2
  obtain ⟨x13_1, rfl, HA, HK1, BK274, HB⟩ := hrel
  cases gk with
  | zero => exact absurd HA.out (by simp [footwayref17_Next.l0])
  | succ k1 =>
   have H := HA.out
   clear HA
   simp only [footwayref17_Next.l0] at H
   by_cases c7 : x13_1 < (l0_1.length : Int)
   ·rw [if_pos c7] at H
    have c7b0 : decide (x13_1 < (l0_1.length : Int)) = true := decide_eq_true c7
    clear c7
    replace H := Option.bind_eq_some_iff.mp H
    obtain ⟨t275, A80, H⟩ := H
    replace H : (if t275 = true then (some true) else (footwayref17_Next.l0 k1 l1 a2 a3 (l0_1.length : Int) (wrap64 (x13_1 + 1)) a0_0 l0_1 l0_2)) = some r := H
    have A8 := Aside0.mk A80
    clear A80
    by_cases c9 : t275 = true
    ·subst c9
     have H1 : (some true) = some r := by rw [if_pos rfl] at H; exact H
     clear H
     have H := H1
     clear H1
     obtain rfl := Option.some.inj H
     have hcz10_0 : wr.cell? ⟨gb274, 0, none⟩ = some (.int .i64 a0_0) := (blk_cell BK274.out 0).trans rfl
     have hcz10_1 : wr.cell? ⟨gb274, 1, none⟩ = some (.slice A0_1 l0_1.length c0_1) := (blk_cell BK274.out 1).trans rfl
     have hcz10_2 : wr.cell? ⟨gb274, 2, none⟩ = some (.slice A0_2 l0_2.length c0_2) := (blk_cell BK274.out 2).trans rfl
     have hfz10_0 := blk_frozen BK274.out 0
     have hfz10_1 := blk_frozen BK274.out 1
     have hfz10_2 := blk_frozen BK274.out 2
     go_wp2_with (first | ((with_reducible refine gate_callee (f := 152) rfl ?_); refine goesL_ (some 21) rfl rfl Try.func152 (by kernel_rfl) rfl #[.agg #[.int .i64 a0_0, .slice A0_1 l0_1.length c0_1, .slice A0_2 l0_2.length c0_2], .slice A1 l1.length c1, .int .i64 x13_1, .int .i64 a2, .int .i64 a3] rfl (by (try simp only [List.map_toArray, List.map_cons, List.map_nil]); first | done | rfl | (simp only [List.length_drop, List.length_take]; rfl)) ?_; (with_reducible refine (footwayref17_leads.calls a0_0 _ _ l0_1 _ _ l0_2 _ _ l1 x13_1 a2 a3 true _ ?side1 ?side2 ?side3 ?side4 ?side5 ?side6 A8.out).mono ?_); (case side1 => repeat (first | exact (Kd.C_below HR0_1.out HB.out) | (with_reducible refine Kd.C_alloc ?_ _) | (with_reducible refine Kd.C_drewN ?_ _) | (with_reducible refine Kd.C_drew ?_))); (case side2 => exact HC0_1.out); (case side3 => repeat (first | exact (Kd.C_below HR0_2.out HB.out) | (with_reducible refine Kd.C_alloc ?_ _) | (with_reducible refine Kd.C_drewN ?_ _) | (with_reducible refine Kd.C_drew ?_))); (case side4 => exact HC0_2.out); (case side5 => repeat (first | exact (Kd.C_below HR1.out HB.out) | (with_reducible refine Kd.C_alloc ?_ _) | (with_reducible refine Kd.C_drewN ?_ _) | (with_reducible refine Kd.C_drew ?_))); (case side6 => exact HC1.out); rintro e w11 ⟨rfl, hb⟩; refine ⟨_, rfl, ?_⟩; have n0_ := Aside0.mk (blk_below (g := gb274) (o := .cells #[.int .i64 a0_0, .slice A0_1 l0_1.length c0_1, .slice A0_2 l0_2.length c0_2] 25 (0, 0)) (by (with_reducible repeat (first | refine blk_drewN ?_ _ | refine blk_drew ?_ | refine blk_alloc ?_ _)); exact BK274.out) hb); have n1_ := Aside0.mk (below_step (by repeat (first | (with_reducible first | exact HB.out | apply below_alloc | apply pw_below_drewN | apply below_drew1 | refine below_set ?_ GE274.out) | exact HB.out)) hb); clear BK274; clear HB; have BK274 := n0_; have HB := n1_; clear n0_ n1_; (try clear hb); (try clear hb2); (try clear hk); (try clear hi)))
     go_ret
     exact ⟨by first | rfl | (simp [errW_none, errW_some] <;> rfl) | (simp [*, errW_none, errW_some] <;> rfl), by repeat (first | (with_reducible first | exact HB.out | apply below_alloc | apply pw_below_drewN | apply below_drew1 | refine below_set ?_ GE274.out) | exact HB.out)⟩
    ·replace c9 := Bool.eq_false_iff.mpr c9
     subst c9
     have H1 : (footwayref17_Next.l0 k1 l1 a2 a3 (l0_1.length : Int) (wrap64 (x13_1 + 1)) a0_0 l0_1 l0_2) = some r := by rw [if_neg (show ¬ (false = true) by decide)] at H; exact H
     clear H
     have H := H1
     clear H1
     have H' := Aside0.mk H
     clear H
     have hcz12_0 : wr.cell? ⟨gb274, 0, none⟩ = some (.int .i64 a0_0) := (blk_cell BK274.out 0).trans rfl
     have hcz12_1 : wr.cell? ⟨gb274, 1, none⟩ = some (.slice A0_1 l0_1.length c0_1) := (blk_cell BK274.out 1).trans rfl
     have hcz12_2 : wr.cell? ⟨gb274, 2, none⟩ = some (.slice A0_2 l0_2.length c0_2) := (blk_cell BK274.out 2).trans rfl
     have hfz12_0 := blk_frozen BK274.out 0
     have hfz12_1 := blk_frozen BK274.out 1
     have hfz12_2 := blk_frozen BK274.out 2
     go_wp2_with (first | ((with_reducible refine gate_callee (f := 152) rfl ?_); refine goesL_ (some 21) rfl rfl Try.func152 (by kernel_rfl) rfl #[.agg #[.int .i64 a0_0, .slice A0_1 l0_1.length c0_1, .slice A0_2 l0_2.length c0_2], .slice A1 l1.length c1, .int .i64 x13_1, .int .i64 a2, .int .i64 a3] rfl (by (try simp only [List.map_toArray, List.map_cons, List.map_nil]); first | done | rfl | (simp only [List.length_drop, List.length_take]; rfl)) ?_; (with_reducible refine (footwayref17_leads.calls a0_0 _ _ l0_1 _ _ l0_2 _ _ l1 x13_1 a2 a3 false _ ?side1 ?side2 ?side3 ?side4 ?side5 ?side6 A8.out).mono ?_); (case side1 => repeat (first | exact (Kd.C_below HR0_1.out HB.out) | (with_reducible refine Kd.C_alloc ?_ _) | (with_reducible refine Kd.C_drewN ?_ _) | (with_reducible refine Kd.C_drew ?_))); (case side2 => exact HC0_1.out); (case side3 => repeat (first | exact (Kd.C_below HR0_2.out HB.out) | (with_reducible refine Kd.C_alloc ?_ _) | (with_reducible refine Kd.C_drewN ?_ _) | (with_reducible refine Kd.C_drew ?_))); (case side4 => exact HC0_2.out); (case side5 => repeat (first | exact (Kd.C_below HR1.out HB.out) | (with_reducible refine Kd.C_alloc ?_ _) | (with_reducible refine Kd.C_drewN ?_ _) | (with_reducible refine Kd.C_drew ?_))); (case side6 => exact HC1.out); rintro e w13 ⟨rfl, hb⟩; refine ⟨_, rfl, ?_⟩; have n0_ := Aside0.mk (blk_below (g := gb274) (o := .cells #[.int .i64 a0_0, .slice A0_1 l0_1.length c0_1, .slice A0_2 l0_2.length c0_2] 25 (0, 0)) (by (with_reducible repeat (first | refine blk_drewN ?_ _ | refine blk_drew ?_ | refine blk_alloc ?_ _)); exact BK274.out) hb); have n1_ := Aside0.mk (below_step (by repeat (first | (with_reducible first | exact HB.out | apply below_alloc | apply pw_below_drewN | apply below_drew1 | refine below_set ?_ GE274.out) | exact HB.out)) hb); clear BK274; clear HB; have BK274 := n0_; have HB := n1_; clear n0_ n1_; (try clear hb); (try clear hb2); (try clear hk); (try clear hi)))
     go_roundg k1
     case measure => have := HK1.out; omega
     case rel => exact ⟨(wrap64 (x13_1 + 1)), (by first | rfl | (simp; done) | (simp [*]; done)), H', ⟨by have := HK1.out; omega⟩, ⟨by (with_reducible repeat (first | refine blk_drewN ?_ _ | refine blk_drew ?_ | refine blk_alloc ?_ _)); exact BK274.out⟩, ⟨by repeat (first | (with_reducible first | exact HB.out | apply below_alloc | apply pw_below_drewN | apply below_drew1 | refine below_set ?_ GE274.out) | exact HB.out)⟩⟩
   ·rw [if_neg c7] at H
    have c7b0 : decide (x13_1 < (l0_1.length : Int)) = false := decide_eq_false c7
    clear c7
    obtain rfl := Option.some.inj H
    go_wp2
    go_ret
    exact ⟨by first | rfl | (simp [errW_none, errW_some] <;> rfl) | (simp [*, errW_none, errW_some] <;> rfl), by repeat (first | (with_reducible first | exact HB.out | apply below_alloc | apply pw_below_drewN | apply below_drew1 | refine below_set ?_ GE274.out) | exact HB.out)⟩
end
end Go.Proofs.Ytjblfgagafmhcaa.K
namespace Go.Proofs.Ytjblfgagafmhcaa.Fw
open Go.RowKit
open Go.Proofs.YtjblfgagafmhcaaW.PrintWords (Kd Drawn0)
def leadsB (l : Lan) (op : List (List Bool)) (u v : Int) (b : Nat) : Bool := match l.plans[b]?, op[b]? with
  | some p, some o => leadsIn p.ports o u v
  | _, _ => false
def nextB (l : Lan) (op : List (List Bool)) (u v : Int) : Bool := (List.range l.plans.length).any (leadsB l op u v)
def l3R (E : Nat → Nat → Bool) (m : Int) (s : Nat) : Nat → Nat → List Int → List Int
  | 0, _, o => o
  | d + 1, t, o => l3R E m s d (t + 1) (if o.getD t 0 < 0 ∧ o.getD s 0 = m - 1 ∧ E s t = true then o.set t m else o)
def l2R (E : Nat → Nat → Bool) (m : Int) (n : Nat) : Nat → Nat → List Int → List Int
  | 0, _, o => o
  | d + 1, s, o => l2R E m n d (s + 1) (l3R E m s n 0 o)
def l1R (E : Nat → Nat → Bool) (n : Nat) : Nat → Nat → List Int → List Int
  | 0, _, o => o
  | d + 1, m, o => l1R E n d (m + 1) (l2R E m n n 0 o)
def refSteps (l : Lan) (op : List (List Bool)) (seg : Int) : List Int := l1R (fun s t => nextB l op s t) l.segs.toNat (l.segs.toNat - 1) 1 ((List.replicate l.segs.toNat (-1 : Int)).set seg.toNat 0)
theorem next_l0 (a0 : Int) (l1 : List Plan) (l2 : List Host) (op : List (List Bool)) (u v : Int) (ok : ∀ x ∈ l1, okPlan x) (hl : l1.length ≤ 6) (hlen : op.length = l1.length) (hlens : ∀ (j : Nat) (p : Plan) (r : List Bool), l1[j]? = some p → op[j]? = some r → r.length = p.ports.length) :
    ∀ (d s k : Nat), s + d = l1.length → d < k → K.footwayref17_Next.l0 k op u v (l1.length : Int) (s : Int) a0 l1 l2 = some (((List.range l1.length).drop s).any (leadsB ⟨a0, l1, l2⟩ op u v))
  | 0, s, k + 1, h, _ => by
    simp only [K.footwayref17_Next.l0]
    rw [if_neg (by omega), List.drop_of_length_le (by simp; omega)]; rfl
  | d + 1, s, k + 1, h, hk => by
    have hs : s < l1.length := by omega
    have hs2 : s < op.length := by omega
    simp only [K.footwayref17_Next.l0]
    have e : leadsB ⟨a0, l1, l2⟩ op u v s = leadsIn l1[s].ports op[s] u v := by
      unfold leadsB
      show (match l1[s]?, op[s]? with | some p, some o => leadsIn p.ports o u v | _, _ => false) = _
      rw [List.getElem?_eq_getElem hs, List.getElem?_eq_getElem hs2]
    have ef : K.footwayref17_leads.f a0 l1 l2 op (s : Int) u v = some (leadsIn l1[s].ports op[s] u v) := by
      unfold K.footwayref17_leads.f
      rw [Int.toNat_natCast, List.getElem?_eq_getElem hs, List.getElem?_eq_getElem hs2]
      simp only []
      rw [if_pos ⟨by omega, hlens s _ _ (List.getElem?_eq_getElem hs) (List.getElem?_eq_getElem hs2), ok⟩]
    rw [if_pos (by omega), ef, Option.bind_some, drop_of_get (x := s) (by simp [hs]), List.any_cons, e]
    cases leadsIn l1[s].ports op[s] u v
    · have hw : wrap64 ((s : Int) + 1) = ((s + 1 : Nat) : Int) := by unfold wrap64; omega
      rw [if_neg (by decide), hw, next_l0 a0 l1 l2 op u v ok hl hlen hlens d (s + 1) k (by omega) (by omega)]
      rfl
    · rw [if_pos rfl]; rfl
  | _, _, 0, _, h => by omega
theorem next_eq (a0 : Int) (l1 : List Plan) (l2 : List Host) (op : List (List Bool)) (u v : Int) (ok : ∀ x ∈ l1, okPlan x) (hm : mayOk ⟨a0, l1, l2⟩ op = true) : K.footwayref17_Next.f 8 a0 l1 l2 op u v = some (nextB ⟨a0, l1, l2⟩ op u v) := by
  have h := mayOk_of hm
  have h6 : l1.length ≤ 6 := h.plans6
  have := next_l0 a0 l1 l2 op u v ok h6 h.len h.lens l1.length 0 8 (by omega) (by omega)
  rw [List.drop_zero] at this
  exact this
theorem Own.block {α : Type} {d : Rp α} {e : TypeId} {w0 w : World} {base : Nat} {v : Value} {xs : List α} (h : Own d e w0 w base v xs) (hp : 0 < xs.length) : ∃ g cap, v = .slice (some ⟨g, 0, none⟩) xs.length cap ∧ base ≤ g ∧ g < w.heap.size := by
  obtain ⟨cs, ⟨h1, h2⟩, hc⟩ := h
  rcases h2 with ⟨rfl, hn⟩ | ⟨g, cap, cur, rfl, hg, hh, r⟩
  · omega
  · exact ⟨g, cap, rfl, hg, (Array.getElem?_eq_some_iff.1 hh).1⟩
set_option maxHeartbeats 2000000 in
set_option maxRecDepth 100000 in
theorem refSteps_any (n : Nat) (l1 : List Plan) (l2 : List Host) (op : List (List Bool)) (seg : Nat) (A1 A2 A3 : Option Addr) (c1 c2 c3 : Nat) (w : World)
    (h1 : Kd.C K.k64 w A1 l1.length l1) (hc1 : l1.length ≤ c1) (h2 : Kd.C K.k91 w A2 l2.length l2) (hc2 : l2.length ≤ c2) (h3 : Kd.C (Kd.slice 4 Kd.bool) w A3 op.length op) (hc3 : op.length ≤ c3)
    (hn1 : 1 ≤ n) (hn8 : n ≤ 8) (hseg : seg < n) (ok : ∀ x ∈ l1, okPlan x) (hm : mayOk ⟨(n : Int), l1, l2⟩ op = true) :
    Calls Try.prog 89 #[.agg #[.int .i64 n, .slice A1 l1.length c1, .slice A2 l2.length c2], .slice A3 op.length c3, .int .i64 seg] w fun e w' => ∃ v, e = .returned v ∧ Own rInt 3 w w' w.heap.size v (refSteps ⟨(n : Int), l1, l2⟩ op seg) ∧ Below w.heap.size w w' := by
  have H1 := Lib.hid h1
  have H2 := Lib.hid h2
  have H3 := Lib.hid h3
  have HN := Lib.hid (fun u v => next_eq (n : Int) l1 l2 op u v ok hm)
  clear h1 h2 h3 ok hm
  go_enter Try.func89, Try.ntmps89
  go_wp2
  have hl0 : ∀ o : Obj, ((w.alloc (.cells #[.int .i64 n, .slice A1 l1.length c1, .slice A2 l2.length c2] 25)).alloc o).heap[w.heap.size]? = some (.cells #[.int .i64 n, .slice A1 l1.length c1, .slice A2 l2.length c2] 25 (0, 0)) := fun o => blk_alloc (blk_new _ _) o
  go_loopg [7, 8] n (fun gg s7 s8 wr => ∃ (kk : Nat), kk ≤ n ∧ n - kk ≤ gg ∧ s8 = .int .i64 kk ∧ Aside (Below w.heap.size w wr) ∧ Aside (wr.heap[w.heap.size]? = some (.cells #[.int .i64 n, .slice A1 l1.length c1, .slice A2 l2.length c2] 25 (0, 0))) ∧ Aside (Own rInt 3 w wr (w.heap.size + 1) s7 (List.replicate kk (-1))))
  case atStart => exact ⟨0, Nat.zero_le _, by omega, rfl, aside (below2 _ _ _), aside (hl0 _), aside (Own.ofInts ⟨by simp, .inr ⟨w.heap.size + 1, 0, _, rfl, Nat.le_refl _, by have := blk_new (w.alloc (.cells #[.int .i64 n, .slice A1 l1.length c1, .slice A2 l2.length c2] 25)) (.cells #[] 3); rw [World.size_alloc] at this; exact this, by simp, by simp [maxLen], by simp, by simp⟩⟩ (fun x hx => by simp at hx))⟩
  case round =>
    obtain ⟨kk, hkk, hg, rfl, BW, L0, HO⟩ := hrel
    have r0 := blk_cell (i := 0) L0.out rfl
    by_cases hlt : kk < n
    · have hlz : (kk : Int) < (n : Int) := by omega
      go_wp2_with (at_builtin; refine wpList_append1n rInt (w.heap.size + 1) rfl _ _ 31 3 (.int .i64 0) 8 rfl Try.underlying31 info_int rfl (by decide) (by decide) _ _ (-1) [.int .i64 (-1)] rfl wr.heap.size rfl rfl ⟨rfl, by constructor <;> omega⟩ HO.out (by have := blk_lt L0.out; exact this) (by simp; omega) ?_; intro v1 w1 hO1 hg1)
      go_roundg (n - (kk + 1))
      case measure => omega
      case rel => exact ⟨kk + 1, by omega, by omega, by go_num, aside (below_grown BW.out hg1 BW.out.size (fun k hk => by have := (HO.out.lt k hk).1; omega)), aside (blk_grown L0.out hg1 (fun q => by have := (HO.out.lt _ q.symm).1; omega)), aside (by rw [List.replicate_succ']; exact hO1)⟩
    · have hlz : ¬ (kk : Int) < (n : Int) := by omega
      obtain rfl : kk = n := by omega
      obtain ⟨g, cap, hv, hgb, hgl⟩ := HO.out.block (by rw [List.length_replicate]; omega)
      subst hv
      have hO := HO.out
      rw [List.length_replicate] at hO
      have hsz : (seg : Int) < (kk : Int) := by omega
      obtain ⟨q0, q1⟩ := hO.get seg (by rw [List.length_replicate]; exact hseg)
      rw [show Value.slice (some ⟨g, 0, none⟩) kk cap = Value.slice (some ⟨g, 0, none⟩) (List.replicate kk (-1 : Int)).length cap from by rw [List.length_replicate]] at hO
      obtain ⟨hO2, hg2⟩ := hO.set seg 0 (by constructor <;> omega)
      rw [List.length_replicate] at hO2
      have HO2 := Lib.hid hO2
      have HG2 := Lib.hid hg2
      clear hO hO2 hg2
      go_wp2
      have HF := Lib.hid (show refSteps ⟨(kk : Int), l1, l2⟩ op (seg : Int) = l1R (fun s t => nextB ⟨(kk : Int), l1, l2⟩ op s t) kk (kk - 1) 1 ((List.replicate kk (-1 : Int)).set seg 0) from rfl)
      have HL0 := Lib.hid (blk_grown L0.out HG2.out (by simp; omega))
      have HB0 := Lib.hid (below_grown BW.out HG2.out BW.out.size (fun k hk => by cases hk; omega))
      generalize wr.setCell ⟨g, seg, none⟩ (.int .i64 0) = wz at *
      clear BW L0 HO HG2 q0 q1 r0
      go_loopg [9] kk (fun gg s9 wr => ∃ (m : Nat) (out : List Int), 1 ≤ m ∧ m ≤ kk ∧ kk - m ≤ gg ∧ s9 = .int .i64 m ∧ Aside (Below w.heap.size w wr) ∧ Aside (wr.heap[w.heap.size]? = some (.cells #[.int .i64 kk, .slice A1 l1.length c1, .slice A2 l2.length c2] 25 (0, 0))) ∧ Aside (Own rInt 3 w wr (w.heap.size + 1) (.slice (some ⟨g, 0, none⟩) kk cap) out) ∧ Aside (out.length = kk) ∧ Aside (refSteps ⟨(kk : Int), l1, l2⟩ op (seg : Int) = l1R (fun s t => nextB ⟨(kk : Int), l1, l2⟩ op s t) kk (kk - m) m out))
      case atStart => exact ⟨1, _, by omega, hn1, by omega, rfl, HB0, HL0, HO2, aside (by simp), HF⟩
      case round =>
        generalize wr = wa at *
        obtain ⟨m, out, hm1, hmk, hg2, rfl, BW, L0, HO, HLN, HR⟩ := hrel
        have r0 := blk_cell (i := 0) L0.out rfl
        by_cases hlt2 : m < kk
        · have hlz2 : (m : Int) < (kk : Int) := by omega
          go_wp2
          go_loopg [33] kk (fun gg s33 wr => ∃ (s : Nat) (o1 : List Int), s ≤ kk ∧ kk - s ≤ gg ∧ s33 = .int .i64 s ∧ Aside (Below w.heap.size w wr) ∧ Aside (wr.heap[w.heap.size]? = some (.cells #[.int .i64 kk, .slice A1 l1.length c1, .slice A2 l2.length c2] 25 (0, 0))) ∧ Aside (Own rInt 3 w wr (w.heap.size + 1) (.slice (some ⟨g, 0, none⟩) kk cap) o1) ∧ Aside (o1.length = kk) ∧
            Aside (l2R (fun s t => nextB ⟨(kk : Int), l1, l2⟩ op s t) m kk (kk - s) s o1 = l2R (fun s t => nextB ⟨(kk : Int), l1, l2⟩ op s t) m kk kk 0 out))
          case atStart => exact ⟨0, out, Nat.zero_le _, by omega, rfl, BW, L0, HO, HLN, aside rfl⟩
          case round =>
            generalize wr = wb at *
            obtain ⟨s, o1, hs, hg3, rfl, BW1, L1, HO1, HLN1, HR1⟩ := hrel
            by_cases hlt3 : s < kk
            · have hlz3 : (s : Int) < (kk : Int) := by omega
              go_wp2
              go_loopg [38] kk (fun gg s38 wr => ∃ (t : Nat) (o2 : List Int), t ≤ kk ∧ kk - t ≤ gg ∧ s38 = .int .i64 t ∧ Aside (Below w.heap.size w wr) ∧ Aside (wr.heap[w.heap.size]? = some (.cells #[.int .i64 kk, .slice A1 l1.length c1, .slice A2 l2.length c2] 25 (0, 0))) ∧ Aside (Own rInt 3 w wr (w.heap.size + 1) (.slice (some ⟨g, 0, none⟩) kk cap) o2) ∧ Aside (o2.length = kk) ∧
                Aside (l3R (fun s t => nextB ⟨(kk : Int), l1, l2⟩ op s t) m s (kk - t) t o2 = l3R (fun s t => nextB ⟨(kk : Int), l1, l2⟩ op s t) m s kk 0 o1))
              case atStart => exact ⟨0, o1, Nat.zero_le _, by omega, rfl, BW1, L1, HO1, HLN1, aside rfl⟩
              case round =>
                obtain ⟨t, o2, ht, hg4, rfl, BW2, L2, HO2, HLN2, HR2⟩ := hrel
                by_cases hlt4 : t < kk
                · have hlz4 : (t : Int) < (kk : Int) := by omega
                  have hln := HLN2.out
                  have htl : t < o2.length := by omega
                  have hsl : s < o2.length := by omega
                  obtain ⟨p1, p2⟩ := HO2.out.get t htl
                  obtain ⟨p3, p4⟩ := HO2.out.get s hsl
                  have hR := HR2.out
                  rw [show kk - t = (kk - (t + 1)) + 1 from by omega, l3R, List.getD_eq_getElem?_getD, List.getElem?_eq_getElem htl, Option.getD_some, List.getD_eq_getElem?_getD, List.getElem?_eq_getElem hsl, Option.getD_some] at hR
                  have HR3 := Lib.hid hR
                  clear hR
                  have rl0 := blk_cell (i := 0) L2.out rfl
                  have rl1 := blk_cell (i := 1) L2.out rfl
                  have rl2 := blk_cell (i := 2) L2.out rfl
                  by_cases e1 : o2[t] < 0
                  · by_cases e2 : o2[s] = (m : Int) - 1
                    · have e2b : (o2[s] == (m : Int) - 1) = true := by simp [e2]
                      have E2 := Lib.hid e2
                      clear e2
                      go_wp2_with fail
                      refine (K.footwayref17_Next.calls 8 (kk : Int) A1 c1 l1 A2 c2 l2 A3 c3 op s t (nextB ⟨(kk : Int), l1, l2⟩ op s t) _ (Kd.C_below H1.out BW2.out) hc1 (Kd.C_below H2.out BW2.out) hc2 (Kd.C_below H3.out BW2.out) hc3 (HN.out s t)).mono ?_
                      rintro e w4 ⟨rfl, hb4⟩
                      have HB4 := Lib.hid (BW2.out.trans (hb4.mono BW2.out.size))
                      have L4 := Lib.hid (blk_below L2.out hb4)
                      have HO4 := Lib.hid (HO2.out.below hb4)
                      obtain ⟨p5, p6⟩ := HO4.out.get t htl
                      clear hb4
                      cases hE : nextB ⟨(kk : Int), l1, l2⟩ op s t
                      · have HR4 := HR3.out
                        rw [if_neg (fun h => by have := h.2.2; rw [hE] at this; cases this)] at HR4
                        have HR5 := Lib.hid HR4
                        clear HR4
                        go_wp2
                        go_roundg (kk - (t + 1))
                        case measure => omega
                        case rel => exact ⟨t + 1, o2, by omega, by omega, by go_num, HB4, L4, HO4, HLN2, HR5⟩
                      · have HR4 := HR3.out
                        rw [if_pos ⟨e1, E2.out, hE⟩] at HR4
                        have HR5 := Lib.hid HR4
                        clear HR4
                        have hO5 := HO4.out
                        rw [show Value.slice (some ⟨g, 0, none⟩) kk cap = Value.slice (some ⟨g, 0, none⟩) o2.length cap from by rw [hln]] at hO5
                        obtain ⟨hO6, hg6⟩ := hO5.set t (m : Int) (by constructor <;> omega)
                        rw [hln] at hO6
                        have HO6 := Lib.hid hO6
                        have L6 := Lib.hid (blk_grown L4.out hg6 (by simp; omega))
                        have HB6 := Lib.hid (below_grown HB4.out hg6 HB4.out.size (fun k hk => by cases hk; omega))
                        clear hO5 hO6 hg6
                        go_wp2
                        go_roundg (kk - (t + 1))
                        case measure => omega
                        case rel => exact ⟨t + 1, o2.set t (m : Int), by omega, by omega, by go_num, HB6, L6, HO6, aside (by rw [List.length_set]; exact hln), HR5⟩
                    · have e2b : (o2[s] == (m : Int) - 1) = false := by simp [e2]
                      have E2 := Lib.hid e2
                      clear e2
                      have HR4 := HR3.out
                      rw [if_neg (fun h => E2.out h.2.1)] at HR4
                      have HR5 := Lib.hid HR4
                      clear HR4
                      go_wp2
                      go_roundg (kk - (t + 1))
                      case measure => omega
                      case rel => exact ⟨t + 1, o2, by omega, by omega, by go_num, BW2, L2, HO2, HLN2, HR5⟩
                  · have HR4 := HR3.out
                    rw [if_neg (fun h => e1 h.1)] at HR4
                    have HR5 := Lib.hid HR4
                    clear HR4
                    go_wp2
                    go_roundg (kk - (t + 1))
                    case measure => omega
                    case rel => exact ⟨t + 1, o2, by omega, by omega, by go_num, BW2, L2, HO2, HLN2, HR5⟩
                · have hlz4 : ¬ (t : Int) < (kk : Int) := by omega
                  have hR := HR2.out
                  rw [show kk - t = 0 from by omega] at hR
                  have HE := Lib.hid (show l2R (fun s t => nextB ⟨(kk : Int), l1, l2⟩ op s t) m kk (kk - (s + 1)) (s + 1) o2 = l2R (fun s t => nextB ⟨(kk : Int), l1, l2⟩ op s t) m kk kk 0 out from by
                    rw [← HR1.out, show kk - s = (kk - (s + 1)) + 1 from by omega, l2R, ← hR, l3R])
                  clear hR
                  go_wp2
                  go_roundg (kk - (s + 1))
                  case measure => omega
                  case rel => exact ⟨s + 1, o2, by omega, by omega, by go_num, BW2, L2, HO2, HLN2, HE⟩
            · have hlz3 : ¬ (s : Int) < (kk : Int) := by omega
              have hR := HR1.out
              rw [show kk - s = 0 from by omega, l2R] at hR
              have HE := Lib.hid (show refSteps ⟨(kk : Int), l1, l2⟩ op (seg : Int) = l1R (fun s t => nextB ⟨(kk : Int), l1, l2⟩ op s t) kk (kk - (m + 1)) (m + 1) o1 from by
                rw [HR.out, show kk - m = (kk - (m + 1)) + 1 from by omega, l1R, ← hR])
              clear hR
              go_wp2
              go_roundg (kk - (m + 1))
              case measure => omega
              case rel => exact ⟨m + 1, o1, by omega, by omega, by omega, by go_num, BW1, L1, HO1, HLN1, HE⟩
        · have hlz2 : ¬ (m : Int) < (kk : Int) := by omega
          have HE := Lib.hid (show refSteps ⟨(kk : Int), l1, l2⟩ op (seg : Int) = out from by rw [HR.out, show kk - m = 0 from by omega]; rfl)
          go_wp2
          go_ret
          exact ⟨_, rfl, by rw [HE.out]; exact HO.out.base (by omega), BW.out⟩
theorem refSteps_full (a0 : Int) (l1 : List Plan) (l2 : List Host) (op : List (List Bool)) (seg : Int) (A1 A2 A3 : Option Addr) (c1 c2 c3 : Nat) (w : World)
    (h1 : Kd.C K.k64 w A1 l1.length l1) (hc1 : l1.length ≤ c1) (h2 : Kd.C K.k91 w A2 l2.length l2) (hc2 : l2.length ≤ c2) (h3 : Kd.C (Kd.slice 4 Kd.bool) w A3 op.length op) (hc3 : op.length ≤ c3)
    (ok : ∀ x ∈ l1, okPlan x) (hm : mayOk ⟨a0, l1, l2⟩ op = true) (h0 : 0 ≤ seg) (hs : seg < a0) :
    Calls Try.prog 89 #[.agg #[.int .i64 a0, .slice A1 l1.length c1, .slice A2 l2.length c2], .slice A3 op.length c3, .int .i64 seg] w fun e w' => ∃ v, e = .returned v ∧ Own rInt 3 w w' w.heap.size v (refSteps ⟨a0, l1, l2⟩ op seg) ∧ Below w.heap.size w w' := by
  have g1 : 1 ≤ a0 := (mayOk_of hm).segs1
  have g2 : a0 ≤ 8 := (mayOk_of hm).segs8
  obtain ⟨n, rfl⟩ := Int.eq_ofNat_of_zero_le (show 0 ≤ a0 by omega)
  obtain ⟨s, rfl⟩ := Int.eq_ofNat_of_zero_le h0
  exact refSteps_any n l1 l2 op s A1 A2 A3 c1 c2 c3 w h1 hc1 h2 hc2 h3 hc3 (by omega) (by omega) (by omega) ok hm
end Go.Proofs.Ytjblfgagafmhcaa.Fw
