/- Part 11 of the proof of one statement: what is written for it by hand and by a program of this seat's, over the given program's form. Conditions: none. -/
import Derived.Test.YtjblfgagafmhcaaZ9
import Derived.Test.YtjblfgagafmhcaaZ7
import Derived.Test.YtjblfgagafmhcaaZ10
import Derived.Test.YtjblfgagafmhcaaZ4
import Derived.Test.YtjblfgagafmhcaaZ5
import Derived.Lib.ConvBytes
import Derived.Lib.SmallJoins
import Derived.Laws.IdiomStrings
set_option linter.unusedVariables false
set_option linter.unusedSimpArgs false
namespace Go.Proofs.Ytjblfgagafmhcaa.Fw
open Go.RowKit
open Go.Proofs.YtjblfgagafmhcaaW.PrintWords (rd)
theorem relax_length (cur : Nat) : ∀ (ts out q : List Int), (relax cur ts out q).1.length = out.length
  | [], out, q => rfl
  | t :: ts, out, q => by
    rw [relax]
    split
    · rw [relax_length cur ts]; simp
    · exact relax_length cur ts out q
theorem bfs_length (rows : List (List Int)) : ∀ (f i : Nat) (out q : List Int), (bfs rows f i out q).length = out.length
  | 0, _, out, q => rfl
  | f + 1, i, out, q => by
    rw [bfs]
    split
    · rw [bfs_length rows f, relax_length]
    · rfl
theorem stepsL_length (l : Lan) (op : List (List Bool)) (seg : Int) : (stepsL l op seg).length = l.segs.toNat := by
  unfold stepsL; rw [bfs_length]; simp
def upTo (out : List Int) : Nat → Nat → List Int
  | _, 0 => []
  | s, d + 1 => if 0 ≤ out.getD s 0 then (s : Int) :: upTo out (s + 1) d else upTo out (s + 1) d
theorem upTo_mem {out : List Int} {x : Int} : ∀ {d s : Nat}, x ∈ upTo out s d ↔ ∃ j : Nat, x = (j : Int) ∧ s ≤ j ∧ j < s + d ∧ 0 ≤ out.getD j 0
  | 0, s => by simp [upTo]; omega
  | d + 1, s => by
    rw [upTo]
    have ih := upTo_mem (out := out) (x := x) (d := d) (s := s + 1)
    constructor
    · intro h
      split at h
      · rename_i h0
        rcases List.mem_cons.1 h with rfl | h
        · exact ⟨s, rfl, Nat.le_refl _, by omega, h0⟩
        · obtain ⟨j, h1, h2, h3, h4⟩ := ih.1 h
          exact ⟨j, h1, by omega, by omega, h4⟩
      · obtain ⟨j, h1, h2, h3, h4⟩ := ih.1 h
        exact ⟨j, h1, by omega, by omega, h4⟩
    · rintro ⟨j, h1, h2, h3, h4⟩
      rcases Nat.lt_or_ge s j with h5 | h5
      · have := ih.2 ⟨j, h1, by omega, by omega, h4⟩
        split
        · exact List.mem_cons_of_mem _ this
        · exact this
      · obtain rfl : j = s := by omega
        rw [if_pos h4]
        subst h1
        exact List.mem_cons_self
def reachL (l : Lan) (op : List (List Bool)) (seg : Int) : List Int := if mayN l op [seg] = 0 then upTo (stepsL l op seg) 0 l.segs.toNat else []
theorem reachL_int {l : Lan} {op : List (List Bool)} {seg : Int} (h8 : l.segs ≤ 8) : ∀ x ∈ reachL l op seg, int64 x := fun x hx => by
  unfold reachL at hx
  split at hx
  · obtain ⟨j, rfl, _, h, _⟩ := upTo_mem.1 hx
    constructor <;> omega
  · simp at hx
theorem reach_l0 (out : List Int) (n : Nat) (hn : n ≤ 8) (hl : out.length = n) : ∀ (d s k : Nat) (acc : List Int), s + d = n → d < k → acc.length ≤ s → K.flood_Reach.l0 k acc out (n : Int) (s : Int) = some (acc ++ upTo out s d, 0)
  | 0, s, k + 1, acc, h, _, _ => by
    simp only [K.flood_Reach.l0]
    rw [if_neg (by omega), upTo, List.append_nil]
  | d + 1, s, k + 1, acc, h, hk, ha => by
    simp only [K.flood_Reach.l0]
    rw [if_pos (by omega), if_pos (by omega), if_pos (by omega)]
    have hrd : rd out (s : Int) = out.getD s 0 := rfl
    have hw : wrap64 ((s : Int) + 1) = ((s + 1 : Nat) : Int) := by unfold wrap64; omega
    rw [hrd, hw, upTo]
    by_cases h0 : 0 ≤ out.getD s 0
    · rw [if_pos h0, if_pos h0, if_pos (by omega), reach_l0 out n hn hl d (s + 1) k _ (by omega) (by omega) (by simp; omega)]
      simp
    · rw [if_neg h0, if_neg h0, reach_l0 out n hn hl d (s + 1) k _ (by omega) (by omega) (by omega)]
  | _, _, 0, _, _, h, _ => by omega
theorem mayN_zero {l : Lan} {op : List (List Bool)} {seg : Int} (h : mayN l op [seg] = 0) : mayOk l op = true ∧ 0 ≤ seg ∧ seg < l.segs := by
  unfold mayN at h
  split at h
  · rename_i h1
    refine ⟨h1, ?_⟩
    split at h
    · cases h
    · rename_i h2
      simp [segOut] at h2
      omega
  · cases h
theorem reach_eq (a0 : Int) (l1 : List Plan) (l2 : List Host) (op : List (List Bool)) (seg : Int) (k : Nat) (hk : 8 < k) (h1 : ∀ x ∈ l1, okPlan x) (h2 : ∀ x ∈ l2, okHost x) (h3 : int64 a0) (h4 : int64 seg) :
    K.flood_Reach.f k a0 l1 l2 op seg = some (reachL ⟨a0, l1, l2⟩ op seg, mayN ⟨a0, l1, l2⟩ op [seg]) := by
  unfold K.flood_Reach.f K.flood_may.f K.flood_steps.f
  rw [if_pos ⟨h1, h2, h3, fun x hx => by rw [List.mem_singleton.1 hx]; exact h4⟩, Option.bind_some]
  by_cases h0 : mayN ⟨a0, l1, l2⟩ op [seg] = 0
  · obtain ⟨hm, hs0, hs1⟩ := mayN_zero h0
    have hs1 : seg < a0 := hs1
    have g1 : 1 ≤ a0 := (mayOk_of hm).segs1
    have g2 : a0 ≤ 8 := (mayOk_of hm).segs8
    obtain ⟨n, rfl⟩ := Int.eq_ofNat_of_zero_le (show 0 ≤ a0 by omega)
    rw [if_pos h0, if_pos ⟨h1, hm, hs0, hs1⟩, Option.bind_some, h0]
    have := reach_l0 (stepsL ⟨(n : Int), l1, l2⟩ op seg) n (by omega) (stepsL_length _ _ _) n 0 k [] (by omega) (by omega) (by simp)
    rw [show ((0 : Nat) : Int) = 0 from rfl] at this
    rw [this, reachL, if_pos h0]
    rfl
  · rw [if_neg h0, reachL, if_neg h0]
end Go.Proofs.Ytjblfgagafmhcaa.Fw
namespace Go.Proofs.Ytjblfgagafmhcaa.Fw
open Go.RowKit
open Go.Proofs.YtjblfgagafmhcaaW.PrintWords (Kd)
def oddAny (segs : Int) (cs : List Copy) : Bool := cs.any fun x => decide (x.seg < 0) || decide (segs ≤ x.seg)
def strayE (l : Lan) (op : List (List Bool)) (cs : List Copy) : Int := if mayN l op [0] = 0 ∧ oddAny l.segs cs = false then 0 else 1
def strayV (l : Lan) (op : List (List Bool)) (cs : List Copy) : Int := if strayE l op cs = 0 then strayFrom (reachL l op) cs cs 0 else 0
set_option maxHeartbeats 1000000 in
set_option maxRecDepth 100000 in
theorem stray_bad (k : Nat) (a0 : Int) (l1 : List Plan) (l2 : List Host) (op : List (List Bool)) (l : List Copy) (A1 A2 A3 A4 : Option Addr) (c1 c2 c3 c4 : Nat) (w : World)
    (h1 : Kd.C K.k64 w A1 l1.length l1) (hc1 : l1.length ≤ c1) (h2 : Kd.C K.k91 w A2 l2.length l2) (hc2 : l2.length ≤ c2) (h3 : Kd.C (Kd.slice 4 Kd.bool) w A3 op.length op) (hc3 : op.length ≤ c3)
    (hS : Sl rCopy w A4 c4 l) (L0 : List Int) (E0 : Int) (h0 : K.flood_Reach.f k a0 l1 l2 op 0 = some (L0, E0)) (hE : ¬ (E0 = 0 ∧ oddAny a0 l = false)) :
    Calls Try.prog 12 #[.agg #[.int .i64 a0, .slice A1 l1.length c1, .slice A2 l2.length c2], .slice A3 op.length c3, .slice A4 l.length c4] w fun e w' => e = .returned (.tuple #[.int .i64 0, .int .i64 1]) ∧ Below w.heap.size w w' := by
  have HS := Lib.hid hS
  have H1 := Lib.hid h1
  have H2 := Lib.hid h2
  have H3 := Lib.hid h3
  have HH0 := Lib.hid h0
  have EG := Lib.hid (show Enters Try.prog 83 from enters_of Try.func83 (by kernel_rfl) rfl)
  clear hS h1 h2 h3 h0
  by_cases hz : E0 = 0
  · have HODD := Lib.hid (show (l.any fun x => decide (x.seg < 0) || decide (a0 ≤ x.seg)) = true from by
      cases ho : oddAny a0 l with
      | true => exact ho
      | false => exact absurd ⟨hz, ho⟩ hE)
    subst hz
    clear hE
    go_enter Try.func12, Try.ntmps12
    go_wp2_with fail
    have hb0 : Below w.heap.size w (w.alloc (.cells #[.int .i64 a0, .slice A1 l1.length c1, .slice A2 l2.length c2] 25)) := (Below.refl _ _).alloc (Nat.le_refl _) _
    refine (K.flood_Reach.calls k a0 A1 c1 l1 A2 c2 l2 A3 c3 op 0 L0 0 _ (Kd.C_below H1.out hb0) hc1 (Kd.C_below H2.out hb0) hc2 (Kd.C_below H3.out hb0) hc3 HH0.out).mono ?_
    rintro e w1 ⟨v0, rfl, _, hb1⟩
    have k0 := Lib.hid (blk_below (blk_new w _) hb1)
    have r0 := blk_cell (i := 0) k0.out rfl
    have HB1 := Lib.hid (hb0.trans (hb1.mono hb0.size))
    clear hb0 hb1
    go_wp2_with (first
      | (go_at_call 46; refine (odd_any _ _).mono ?_; rintro e w' ⟨rfl, rfl⟩)
      | (go_at_call 45; refine (containsFunc_Copy _ _ EG.out _ _ _ _ _ ((HS.out.below HB1.out).below ((Below.refl _ _).alloc (Nat.le_refl _) _)) (odd_on _ a0 _ (by simp) (by rw [World.cell?_alloc_at _ _ _ _ rfl]; rfl))).mono ?_; rw [HODD.out]; rintro e w2 ⟨rfl, hb2⟩))
    go_ret2
    exact ⟨rfl, HB1.out.trans ((((Below.refl _ _).alloc (Nat.le_refl _) _).trans (hb2.mono (by simp))).mono HB1.out.size)⟩
  · clear hE
    go_enter Try.func12, Try.ntmps12
    go_wp2_with fail
    have hb0 : Below w.heap.size w (w.alloc (.cells #[.int .i64 a0, .slice A1 l1.length c1, .slice A2 l2.length c2] 25)) := (Below.refl _ _).alloc (Nat.le_refl _) _
    refine (K.flood_Reach.calls k a0 A1 c1 l1 A2 c2 l2 A3 c3 op 0 L0 E0 _ (Kd.C_below H1.out hb0) hc1 (Kd.C_below H2.out hb0) hc2 (Kd.C_below H3.out hb0) hc3 HH0.out).mono ?_
    rintro e w1 ⟨v0, rfl, _, hb1⟩
    have HB1 := Lib.hid (hb0.trans (hb1.mono hb0.size))
    clear hb0 hb1
    go_wp2
    go_ret2
    exact ⟨rfl, HB1.out⟩
theorem stray_full (a0 : Int) (l1 : List Plan) (l2 : List Host) (op : List (List Bool)) (l : List Copy) (A1 A2 A3 A4 : Option Addr) (c1 c2 c3 c4 : Nat) (w : World)
    (h1 : Kd.C K.k64 w A1 l1.length l1) (hc1 : l1.length ≤ c1) (h2 : Kd.C K.k91 w A2 l2.length l2) (hc2 : l2.length ≤ c2) (h3 : Kd.C (Kd.slice 4 Kd.bool) w A3 op.length op) (hc3 : op.length ≤ c3)
    (h4 : Kd.C K.k80 w A4 l.length l) (hc4 : l.length ≤ c4) (o1 : ∀ x ∈ l1, okPlan x) (o2 : ∀ x ∈ l2, okHost x) (o3 : int64 a0) (o4 : ∀ x ∈ l, okCopy x) :
    Calls Try.prog 12 #[.agg #[.int .i64 a0, .slice A1 l1.length c1, .slice A2 l2.length c2], .slice A3 op.length c3, .slice A4 l.length c4] w fun e w' => e = .returned (.tuple #[.int .i64 (strayV ⟨a0, l1, l2⟩ op l), .int .i64 (strayE ⟨a0, l1, l2⟩ op l)]) ∧ Below w.heap.size w w' := by
  have h0 := reach_eq a0 l1 l2 op 0 9 (by omega) o1 o2 o3 (by constructor <;> omega)
  by_cases hc : mayN ⟨a0, l1, l2⟩ op [0] = 0 ∧ oddAny a0 l = false
  · have hE : strayE ⟨a0, l1, l2⟩ op l = 0 := if_pos hc
    have hV : strayV ⟨a0, l1, l2⟩ op l = strayFrom (reachL ⟨a0, l1, l2⟩ op) l l 0 := if_pos hE
    rw [hE, hV]
    have hm := mayOk_of (mayN_zero hc.1).1
    refine stray_any 9 a0 l1 l2 op l (reachL ⟨a0, l1, l2⟩ op) A1 A2 A3 A4 c1 c2 c3 c4 w h1 hc1 h2 hc2 h3 hc3 (slCopy h4 hc4 o4) _ _ h0 hc.2 hc.1 (fun c hcm => ?_) (fun c _ => reachL_int hm.segs8)
    have hs := List.any_eq_false.1 hc.2 c hcm
    simp at hs
    have hN : mayN ⟨a0, l1, l2⟩ op [c.seg] = 0 := by
      have hs2 : segOut a0 c.seg = false := by simp [segOut]; omega
      unfold mayN
      rw [if_pos (mayN_zero hc.1).1]
      simp [hs2]
    rw [reach_eq a0 l1 l2 op c.seg 9 (by omega) o1 o2 o3 (o4 c hcm).2.1, hN]
  · have hE : strayE ⟨a0, l1, l2⟩ op l = 1 := if_neg hc
    have hV : strayV ⟨a0, l1, l2⟩ op l = 0 := by unfold strayV; rw [hE]; rfl
    rw [hE, hV]
    exact stray_bad 9 a0 l1 l2 op l A1 A2 A3 A4 c1 c2 c3 c4 w h1 hc1 h2 hc2 h3 hc3 (slCopy h4 hc4 o4) _ _ h0 hc
end Go.Proofs.Ytjblfgagafmhcaa.Fw
namespace Go.Proofs.Ytjblfgagafmhcaa.Fw
open Go.RowKit
def ofBytes (l : List UInt8) : Int := l.foldl (fun a b => a * 256 + (b.toNat : Int)) 0
theorem ofBytes_snoc (l : List UInt8) (b : UInt8) : ofBytes (l ++ [b]) = ofBytes l * 256 + (b.toNat : Int) := by simp [ofBytes, List.foldl_append]
theorem ofBytes_take (l : List UInt8) : ∀ k, k ≤ l.length → 0 ≤ ofBytes (l.take k) ∧ ofBytes (l.take k) < ((256 ^ k : Nat) : Int)
  | 0, _ => by simp [ofBytes]
  | k + 1, h => by
    have ih := ofBytes_take l k (by omega)
    rw [List.take_succ_eq_append_getElem (by omega), ofBytes_snoc, Nat.pow_succ]
    have := (l[k]'(by omega)).toNat_lt
    omega
theorem ofBytes_five (l : List UInt8) (k : Nat) (h : k ≤ l.length) (h5 : k ≤ 5) : ofBytes (l.take k) ≤ 1099511627775 := by
  have h1 := (ofBytes_take l k h).2
  have h2 : 256 ^ k ≤ 256 ^ 5 := Nat.pow_le_pow_right (by decide) h5
  omega
theorem or_byte (a b : Int) (h0 : 0 ≤ a) (h1 : a ≤ 1099511627775) (h2 : 0 ≤ b) (h3 : b ≤ 255) : bits .or .i64 (a * 256) b = a * 256 + b :=
  bits_join .i64 63 (by decide) wraps_i64' 8 (a * 256) b (by omega) (by omega) (by omega) h2 (by omega) (by omega)
set_option maxHeartbeats 1000000 in
theorem macOf_any (s : ByteArray) (w : World) (hs : s.size = 6) : Calls Try.prog 122 #[.string s] w fun e w' => e = .returned (.tuple #[.int .i64 (ofBytes s.data.toList), .int .i64 0]) ∧ w = w' := by
  have HS := Lib.hid hs
  have hs1 : s.size < 7 := by omega
  have hs2 : 5 < s.size := by omega
  clear hs
  go_enter Try.func122, Try.ntmps122
  go_wp2
  go_loop [4, 14] (fun a i => ∃ k : Nat, k ≤ 6 ∧ i = .int .i64 k ∧ a = .int .i64 (ofBytes (s.data.toList.take k))) (fun _ i => 6 - (intOf i).toNat)
  case atStart => exact ⟨0, by omega, rfl, rfl⟩
  case round =>
    obtain ⟨k, hk, rfl, rfl⟩ := hrel
    have hl : s.data.toList.length = 6 := by have := HS.out; simpa using this
    by_cases hlt : k < 6
    · have h1 := (ofBytes_take s.data.toList k (by omega)).1
      have h2 := ofBytes_five s.data.toList k (by omega) (by omega)
      have hks : k < s.size := by omega
      have hb := (s[k]'hks).toNat_lt
      have hor := or_byte (ofBytes (s.data.toList.take k)) ((s[k]'hks).toNat : Int) h1 h2 (by omega) (by omega)
      have hsn : ofBytes (s.data.toList.take (k + 1)) = ofBytes (s.data.toList.take k) * 256 + ((s[k]'hks).toNat : Int) := by
        rw [List.take_succ_eq_append_getElem (by omega), ofBytes_snoc]; rfl
      have HSN := Lib.hid hsn
      clear hsn hl
      go_wp2
      go_round
      case rel => exact ⟨k + 1, by omega, by go_num, by rw [HSN.out]⟩
      case measure => simp [intOf]; omega
    · obtain rfl : k = 6 := by omega
      have e : s.data.toList.take 6 = s.data.toList := List.take_of_length_le (by omega)
      have HE := Lib.hid e
      clear e hl
      go_wp2
      go_ret2
      exact ⟨ret_ii (by rw [HE.out]) rfl, rfl⟩
def frameOk (f : Frame) : Bool := isMac f.src && isAddr f.dst && decide (0 ≤ f.type) && decide (f.type ≤ 65535) && decide (f.data.size ≤ 100)
set_option maxHeartbeats 1000000 in
theorem frameRight_any (f : Frame) (w : World) (hd : f.data.size ≤ 9223372036854775807) : Calls Try.prog 123 #[.agg #[.int .i64 f.dst, .int .i64 f.src, .int .i64 f.type, .string f.data]] w fun e w' => e = .returned (.bool (frameOk f)) ∧ Below w.heap.size w w' := by
  have hb : ∀ o, Below w.heap.size w (w.alloc o) := fun o => (Below.refl _ _).alloc (Nat.le_refl _) o
  have HB := Lib.hid hb
  clear hb
  cases h1 : isAddr f.src
  · go_enter Try.func123, Try.ntmps123
    go_wp2_with (go_at_call 87; refine (class_bad _ _ h1).mono ?_; rintro e w' ⟨rfl, rfl⟩)
    go_ret
    exact ⟨ret_bool (by simp [frameOk, isMac, h1]), HB.out _⟩
  · by_cases h2 : classOf f.src = 0
    · cases h3 : isAddr f.dst
      · go_enter Try.func123, Try.ntmps123
        go_wp2_with (first
          | (go_at_call 87; refine (class_ok _ _ h1).mono ?_; rintro e w' ⟨rfl, rfl⟩)
          | (go_at_call 121; refine (macRight_any _ _).mono ?_; rintro e w' ⟨rfl, rfl⟩))
        go_ret
        exact ⟨ret_bool (by simp [frameOk, h3]), HB.out _⟩
      · by_cases h4 : 0 ≤ f.type
        · by_cases h5 : f.type ≤ 65535
          · by_cases h6 : f.data.size ≤ 100
            all_goals
              go_enter Try.func123, Try.ntmps123
              go_wp2_with (first
                | (go_at_call 87; refine (class_ok _ _ h1).mono ?_; rintro e w' ⟨rfl, rfl⟩)
                | (go_at_call 121; refine (macRight_any _ _).mono ?_; rintro e w' ⟨rfl, rfl⟩))
              go_ret
              exact ⟨ret_bool (by simp [frameOk, isMac, h1, h2, h3, h4, h5]; omega), HB.out _⟩
          · go_enter Try.func123, Try.ntmps123
            go_wp2_with (first
              | (go_at_call 87; refine (class_ok _ _ h1).mono ?_; rintro e w' ⟨rfl, rfl⟩)
              | (go_at_call 121; refine (macRight_any _ _).mono ?_; rintro e w' ⟨rfl, rfl⟩))
            go_ret
            exact ⟨ret_bool (by simp [frameOk]; intros; omega), HB.out _⟩
        · go_enter Try.func123, Try.ntmps123
          go_wp2_with (first
            | (go_at_call 87; refine (class_ok _ _ h1).mono ?_; rintro e w' ⟨rfl, rfl⟩)
            | (go_at_call 121; refine (macRight_any _ _).mono ?_; rintro e w' ⟨rfl, rfl⟩))
          go_ret
          exact ⟨ret_bool (by simp [frameOk]; intros; omega), HB.out _⟩
    · go_enter Try.func123, Try.ntmps123
      go_wp2_with (go_at_call 87; refine (class_ok _ _ h1).mono ?_; rintro e w' ⟨rfl, rfl⟩)
      go_ret
      exact ⟨ret_bool (by simp [frameOk, isMac, h2]), HB.out _⟩
set_option maxHeartbeats 1000000 in
theorem conv_bytes {P : Program} (w : World) (src dst e : TypeId) (s : ByteArray) (hs : P.underlying src = some .string) (hd : P.underlying dst = some (.slice e)) (he : P.underlying e = some (.int .u8)) (hm : s.size ≤ 9223372036854775807) :
    ∃ cap W1, (convert src dst (.string s)).run P w = .ok (.slice (some ⟨w.heap.size, 0, none⟩) s.size cap) W1 ∧ s.size ≤ cap ∧ cap ≤ 9223372036854775807 ∧ Below w.heap.size w W1 ∧ W1.heap.size = w.heap.size + 1 ∧
      ∀ j (hj : j < s.size), W1.cell? ⟨w.heap.size, j, none⟩ = some (.int .u8 (s.data.toList.getD j 0).toNat) :=
  ⟨_, _, Lib.run_convert_string_bytes w src dst e s hs hd he, grownCap_ge _ _ _ _, by
    have := grownCap_le_maxLen w s.size 0 e (by unfold maxLen; omega)
    simpa [maxLen] using this, Go.Joins.below_bytesWorld _ w e s (Nat.le_refl _), Lib.bytesWorld_size w e s, fun j hj => Lib.bytesWorld_cell w e s j hj⟩
theorem conv_back {P : Program} (w : World) (src dst e : TypeId) (hs : P.underlying src = some (.slice e)) (he : P.underlying e = some (.int .u8)) (hd : P.underlying dst = some .string) (l : List UInt8) (B : Nat) (hc : ∀ j (_ : j < l.length), w.cell? ⟨B, j, none⟩ = some (.int .u8 (l.getD j 0).toNat))
    (a n cap : Nat) (h : a + n ≤ l.length) : (convert src dst (.slice (some ⟨B, a, none⟩) n cap)).run P w = .ok (.string ⟨((l.drop a).take n).toArray⟩) w := by
  have hl : ((l.drop a).take n).length = n := by rw [List.length_take, List.length_drop]; omega
  have := run_convert_bytes_back (P := P) w src dst e ⟨B, a, none⟩ cap ((l.drop a).take n) hs he hd (fun j hj => by
    rw [add_none, hc (a + j) (by omega)]
    simp only [List.getElem_take, List.getElem_drop, List.getD_eq_getElem?_getD, List.getElem?_eq_getElem (show a + j < l.length by omega), Option.getD_some])
  rw [hl] at this
  exact this
def frameOf (l : List UInt8) : Frame := ⟨ofBytes (l.take 6), ofBytes ((l.drop 6).take 6), ((l.getD 12 0).toNat : Int) * 256 + ((l.getD 13 0).toNat : Int), ⟨(l.drop 14).toArray⟩⟩
def noFrame : Frame := ⟨0, 0, 0, ⟨#[]⟩⟩
def parseF (s : ByteArray) : Frame × Int :=
  if s.size < 14 then (noFrame, 7) else if 114 < s.size then (noFrame, 8) else if frameOk (frameOf s.data.toList) then (frameOf s.data.toList, 0) else (noFrame, 10)
def frameV (f : Frame) : Value := .agg #[.int .i64 f.dst, .int .i64 f.src, .int .i64 f.type, .string f.data]
set_option maxHeartbeats 1000000 in
theorem parse_bad (s : ByteArray) (w : World) (hm : s.size ≤ 9223372036854775807) (h : s.size < 14 ∨ 114 < s.size) : Calls Try.prog 88 #[.string s] w fun e w' => e = .returned (.tuple #[frameV (parseF s).1, .int .i64 (parseF s).2]) ∧ Below w.heap.size w w' := by
  by_cases h1 : s.size < 14
  · have e1 : parseF s = (noFrame, 7) := if_pos h1
    have E1 := Lib.hid e1
    clear e1 h
    go_enter Try.func88, Try.ntmps88
    go_wp2
    rw [E1.out]
    exact bodyPost_ret (v := .tuple #[frameV noFrame, .int .i64 7]) (by simp [results, Try.results88, go_sem, frameV, noFrame]) rfl ⟨rfl, (Below.refl _ _).alloc (Nat.le_refl _) _⟩
  · have e1 : parseF s = (noFrame, 8) := by unfold parseF; rw [if_neg h1, if_pos (by omega)]
    have E1 := Lib.hid e1
    have h2 : 114 < s.size := by omega
    clear e1 h
    go_enter Try.func88, Try.ntmps88
    go_wp2
    rw [E1.out]
    exact bodyPost_ret (v := .tuple #[frameV noFrame, .int .i64 8]) (by simp [results, Try.results88, go_sem, frameV, noFrame]) rfl ⟨rfl, (Below.refl _ _).alloc (Nat.le_refl _) _⟩
set_option maxHeartbeats 2000000 in
set_option maxRecDepth 100000 in
theorem parse_ok (s : ByteArray) (w : World) (h1 : 14 ≤ s.size) (h2 : s.size ≤ 114) : Calls Try.prog 88 #[.string s] w fun e w' => e = .returned (.tuple #[frameV (parseF s).1, .int .i64 (parseF s).2]) ∧ Below w.heap.size w w' := by
  have hll : s.data.toList.length = s.size := by simp
  obtain ⟨cap, W1, hcv, g1, g2, g3, g4, g5⟩ := conv_bytes (P := Try.prog) (w.alloc (.cells #[.int .i64 0, .int .i64 0, .int .i64 0, .string ⟨#[]⟩] 131)) 9 161 5 s Try.underlying9 Try.underlying161 Try.underlying5 (by omega)
  simp only [World.size_alloc] at hcv g4 g5
  have hc0 : ∀ j (_ : j < s.data.toList.length), W1.cell? ⟨w.heap.size + 1, j, none⟩ = some (.int .u8 (s.data.toList.getD j 0).toNat) := fun j hj => g5 j (by omega)
  have hA := conv_back (P := Try.prog) W1 161 9 5 Try.underlying161 Try.underlying5 Try.underlying9 s.data.toList (w.heap.size + 1) hc0 0 6 6 (by omega)
  have hB := conv_back (P := Try.prog) W1 161 9 5 Try.underlying161 Try.underlying5 Try.underlying9 s.data.toList (w.heap.size + 1) hc0 6 6 6 (by omega)
  have sA : (⟨((s.data.toList.drop 0).take 6).toArray⟩ : ByteArray).size = 6 := by show (_ : List UInt8).toArray.size = 6; rw [List.size_toArray, List.length_take, List.length_drop]; omega
  have sB : (⟨((s.data.toList.drop 6).take 6).toArray⟩ : ByteArray).size = 6 := by show (_ : List UInt8).toArray.size = 6; rw [List.size_toArray, List.length_take, List.length_drop]; omega
  have SA := Lib.hid sA
  have SB := Lib.hid sB
  have q12 := hc0 12 (by omega)
  have q13 := hc0 13 (by omega)
  have he : (s.data.toList.drop 14).take (s.size - 14) = s.data.toList.drop 14 := List.take_of_length_le (by rw [List.length_drop]; omega)
  have hCD : ∀ W : World, (∀ j (_ : j < s.data.toList.length), W.cell? ⟨w.heap.size + 1, j, none⟩ = some (.int .u8 (s.data.toList.getD j 0).toNat)) →
      Sem.run Try.prog (convert 161 9 (.slice (if cap = 14 then some ⟨w.heap.size + 1, 0, none⟩ else some ⟨w.heap.size + 1, 14, none⟩) (s.size - 14) (cap - 14))) W = .ok (.string ⟨(s.data.toList.drop 14).toArray⟩) W := fun W hW => by
    split
    · have := conv_back (P := Try.prog) W 161 9 5 Try.underlying161 Try.underlying5 Try.underlying9 s.data.toList (w.heap.size + 1) hW 0 (s.size - 14) (cap - 14) (by omega)
      rw [show s.size - 14 = 0 from by omega] at this ⊢
      rw [List.drop_eq_nil_of_le (show s.data.toList.length ≤ 14 from by omega)]
      simpa using this
    · have := conv_back (P := Try.prog) W 161 9 5 Try.underlying161 Try.underlying5 Try.underlying9 s.data.toList (w.heap.size + 1) hW 14 (s.size - 14) (cap - 14) (by omega)
      rw [he] at this
      exact this
  have hC := hCD W1.drew hc0
  have hD := hCD ((W1.alloc (.cells #[.int .i64 0, .int .i64 0, .int .i64 0, .string ⟨#[]⟩] 131)).drew) (fun j hj => (World.cell?_alloc_past _ _ _ (by show w.heap.size + 1 < W1.heap.size; omega)).trans (hc0 j hj))
  generalize hb12 : s.data.toList.getD 12 0 = b12 at q12
  generalize hb13 : s.data.toList.getD 13 0 = b13 at q13
  have hl12 := b12.toNat_lt
  have hl13 := b13.toNat_lt
  have hor := or_byte (b12.toNat : Int) (b13.toNat : Int) (by omega) (by omega) (by omega) (by omega)
  have HB12 := Lib.hid hb12
  have HB13 := Lib.hid hb13
  have hc14 : 14 ≤ cap := by omega
  clear sA sB g5 hc0 hll he hCD hb12 hb13
  have h12 : (12 : Int) < (s.size : Int) := by omega
  have h13 : (13 : Int) < (s.size : Int) := by omega
  have hc6 : 6 ≤ cap := by omega
  have hc12 : 12 ≤ cap := by omega
  have hfo : frameOf s.data.toList = ⟨ofBytes (s.data.toList.take 6), ofBytes ((s.data.toList.drop 6).take 6), (b12.toNat : Int) * 256 + (b13.toNat : Int), ⟨(s.data.toList.drop 14).toArray⟩⟩ := by unfold frameOf; rw [HB12.out, HB13.out]
  have HFO := Lib.hid hfo
  have hds : (frameOf s.data.toList).data.size ≤ 9223372036854775807 := by
    rw [hfo]; show (_ : List UInt8).toArray.size ≤ _; rw [List.size_toArray, List.length_drop, show s.data.toList.length = s.size from by simp]; omega
  have HDS := Lib.hid hds
  have hr0 : W1.heap[w.heap.size]? = some (.cells #[.int .i64 0, .int .i64 0, .int .i64 0, .string ⟨#[]⟩] 131 (0, 0)) := blk_below (blk_new w _) (by simpa using g3)
  have hbw : Below w.heap.size w W1 := ((Below.refl _ _).alloc (Nat.le_refl _) _).trans (g3.mono (by simp))
  have HR0 := Lib.hid hr0
  have HBW := Lib.hid hbw
  have HBA : Hid (∀ o, Below w.heap.size w (W1.alloc o).drew) := Lib.hid (fun o => (hbw.alloc hbw.size o).drew)
  have hpa : parseF s = if frameOk (frameOf s.data.toList) then (frameOf s.data.toList, 0) else (noFrame, 10) := by unfold parseF; rw [if_neg (by omega), if_neg (by omega)]
  have HPA := Lib.hid hpa
  clear hpa hfo hds hr0 hbw g3
  by_cases hcap : cap = 14
  · subst hcap
    rw [if_pos rfl] at hC hD
    rw [show s.size - 14 = 0 from by omega] at hC hD
    simp only [Nat.sub_self] at hC hD
    go_enter Try.func88, Try.ntmps88
    go_wp2_with fail
    refine (macOf_any _ _ SA.out).mono ?_
    rintro e w' ⟨rfl, rfl⟩
    go_wp2_with fail
    refine (macOf_any _ _ SB.out).mono ?_
    rintro e w' ⟨rfl, rfl⟩
    go_wp2_with fail
    go_region
    all_goals
      clear hC hD q12 q13 hA hB hcv
      cases hok : frameOk (frameOf s.data.toList)
      all_goals
        have HOK := Lib.hid hok
        clear hok
        go_wp2_with fail
        refine (frameRight_any ⟨ofBytes (s.data.toList.take 6), ofBytes ((s.data.toList.drop 6).take 6), (b12.toNat : Int) * 256 + (b13.toNat : Int), ⟨(s.data.toList.drop 14).toArray⟩⟩ _ (by have := HDS.out; rw [HFO.out] at this; exact this)).mono ?_
        rw [← HFO.out, HOK.out]
        rintro e w2 ⟨rfl, hb2⟩
        have k0 := blk_below (blk_below (HR0.out) (show Below W1.heap.size W1 (W1.alloc _).drew from ((Below.refl _ _).alloc (Nat.le_refl _) _).drew)) hb2
        have k1 := blk_below (show (W1.alloc _).drew.heap[W1.heap.size]? = _ from blk_new W1 _) hb2
        obtain ⟨r0, r1, r2, r3⟩ := blk4 k0
        have z0 := blk_free (i := 0) k0
        have z1 := blk_free (i := 1) k0
        have z2 := blk_free (i := 2) k0
        have z3 := blk_free (i := 3) k0
        obtain ⟨y0, y1, y2, y3⟩ := blk4 k1
        have hb3 := Lib.hid ((HBA.out _).trans (hb2.mono (HBA.out _).size))
        rw [g4] at y0 y1 y2 y3
        clear k0 k1 hb2
      · go_wp2
        have hp := HPA.out
        rw [HOK.out, if_neg (by simp)] at hp
        rw [hp]
        exact bodyPost_ret (v := .tuple #[frameV noFrame, .int .i64 10]) (by simp [results, Try.results88, go_sem, frameV, noFrame, r0, r1, r2, r3]) rfl ⟨rfl, (((hb3.out.setCell (Nat.le_refl _) _).setCell (Nat.le_refl _) _).setCell (Nat.le_refl _) _).setCell (Nat.le_refl _) _⟩
      · go_wp2
        have hp := HPA.out
        rw [HOK.out, if_pos rfl] at hp
        rw [hp, HFO.out]
        exact bodyPost_ret (v := .tuple #[frameV ⟨ofBytes (s.data.toList.take 6), ofBytes ((s.data.toList.drop 6).take 6), (b12.toNat : Int) * 256 + (b13.toNat : Int), ⟨(s.data.toList.drop 14).toArray⟩⟩, .int .i64 0]) (by simp [results, Try.results88, go_sem, frameV, r0, r1, r2, r3]) rfl ⟨rfl, (((hb3.out.setCell (Nat.le_refl _) _).setCell (Nat.le_refl _) _).setCell (Nat.le_refl _) _).setCell (Nat.le_refl _) _⟩
  · rw [if_neg hcap] at hC hD
    go_enter Try.func88, Try.ntmps88
    go_wp2_with fail
    refine (macOf_any _ _ SA.out).mono ?_
    rintro e w' ⟨rfl, rfl⟩
    go_wp2_with fail
    refine (macOf_any _ _ SB.out).mono ?_
    rintro e w' ⟨rfl, rfl⟩
    go_wp2_with fail
    go_region
    all_goals
      clear hC hD q12 q13 hA hB hcv
      cases hok : frameOk (frameOf s.data.toList)
      all_goals
        have HOK := Lib.hid hok
        clear hok
        go_wp2_with fail
        refine (frameRight_any ⟨ofBytes (s.data.toList.take 6), ofBytes ((s.data.toList.drop 6).take 6), (b12.toNat : Int) * 256 + (b13.toNat : Int), ⟨(s.data.toList.drop 14).toArray⟩⟩ _ (by have := HDS.out; rw [HFO.out] at this; exact this)).mono ?_
        rw [← HFO.out, HOK.out]
        rintro e w2 ⟨rfl, hb2⟩
        have k0 := blk_below (blk_below (HR0.out) (show Below W1.heap.size W1 (W1.alloc _).drew from ((Below.refl _ _).alloc (Nat.le_refl _) _).drew)) hb2
        have k1 := blk_below (show (W1.alloc _).drew.heap[W1.heap.size]? = _ from blk_new W1 _) hb2
        obtain ⟨r0, r1, r2, r3⟩ := blk4 k0
        have z0 := blk_free (i := 0) k0
        have z1 := blk_free (i := 1) k0
        have z2 := blk_free (i := 2) k0
        have z3 := blk_free (i := 3) k0
        obtain ⟨y0, y1, y2, y3⟩ := blk4 k1
        have hb3 := Lib.hid ((HBA.out _).trans (hb2.mono (HBA.out _).size))
        rw [g4] at y0 y1 y2 y3
        clear k0 k1 hb2
      · go_wp2
        have hp := HPA.out
        rw [HOK.out, if_neg (by simp)] at hp
        rw [hp]
        exact bodyPost_ret (v := .tuple #[frameV noFrame, .int .i64 10]) (by simp [results, Try.results88, go_sem, frameV, noFrame, r0, r1, r2, r3]) rfl ⟨rfl, (((hb3.out.setCell (Nat.le_refl _) _).setCell (Nat.le_refl _) _).setCell (Nat.le_refl _) _).setCell (Nat.le_refl _) _⟩
      · go_wp2
        have hp := HPA.out
        rw [HOK.out, if_pos rfl] at hp
        rw [hp, HFO.out]
        exact bodyPost_ret (v := .tuple #[frameV ⟨ofBytes (s.data.toList.take 6), ofBytes ((s.data.toList.drop 6).take 6), (b12.toNat : Int) * 256 + (b13.toNat : Int), ⟨(s.data.toList.drop 14).toArray⟩⟩, .int .i64 0]) (by simp [results, Try.results88, go_sem, frameV, r0, r1, r2, r3]) rfl ⟨rfl, (((hb3.out.setCell (Nat.le_refl _) _).setCell (Nat.le_refl _) _).setCell (Nat.le_refl _) _).setCell (Nat.le_refl _) _⟩
end Go.Proofs.Ytjblfgagafmhcaa.Fw
namespace Go.Proofs.Ytjblfgagafmhcaa.Fw
open Go.RowKit
theorem refAddr_any (a : Int) (w : World) : Calls Try.prog 90 #[.int .i64 a] w fun e w' => e = .returned (.bool (isAddr a)) ∧ w = w' := by
  by_cases h1 : 0 ≤ a
  · by_cases h2 : a < 281474976710656
    all_goals
      go_enter Try.func90, Try.ntmps90
      go_wp2
      go_ret
      exact ⟨ret_bool (by simp [isAddr]; omega), rfl⟩
  · go_enter Try.func90, Try.ntmps90
    go_wp2
    go_ret
    exact ⟨ret_bool (by simp [isAddr]; omega), rfl⟩
theorem refClass_any (a : Int) (w : World) (ha : isAddr a = true) : Calls Try.prog 91 #[.int .i64 a] w fun e w' => e = .returned (.int .i64 (classOf a)) ∧ w = w' := by
  have hb : 0 ≤ a ∧ a ≤ 281474976710655 := by simpa [isAddr] using ha
  have e1 : a.tdiv 16 = a / 16 := Int.tdiv_eq_ediv_of_nonneg hb.1
  have e2 : a.tdiv 1099511627776 = a / 1099511627776 := Int.tdiv_eq_ediv_of_nonneg hb.1
  have e3 : (a / 1099511627776).tmod 2 = a / 1099511627776 % 2 := Int.tmod_eq_emod_of_nonneg (by omega)
  clear ha
  by_cases h1 : a / 16 = 103282638848
  · go_enter Try.func91, Try.ntmps91
    go_wp2
    go_ret
    exact ⟨ret_int (by simp [classOf, h1]), rfl⟩
  · by_cases h2 : a / 1099511627776 % 2 = 1
    all_goals
      go_enter Try.func91, Try.ntmps91
      go_wp2
      go_ret
      exact ⟨ret_int (by simp [classOf, h1]; omega), rfl⟩
theorem refOf_any (s : ByteArray) (w : World) (hs : s.size = 6) : Calls Try.prog 125 #[.string s] w fun e w' => e = .returned (.int .i64 (ofBytes s.data.toList)) ∧ w = w' := by
  have HS := Lib.hid hs
  have hs1 : s.size < 7 := by omega
  have hs2 : 5 < s.size := by omega
  clear hs
  go_enter Try.func125, Try.ntmps125
  go_wp2
  go_loop [3, 4] (fun a i => ∃ k : Nat, k ≤ 6 ∧ i = .int .i64 k ∧ a = .int .i64 (ofBytes (s.data.toList.take k))) (fun _ i => 6 - (intOf i).toNat)
  case atStart => exact ⟨0, by omega, rfl, rfl⟩
  case round =>
    obtain ⟨k, hk, rfl, rfl⟩ := hrel
    have hl : s.data.toList.length = 6 := by have := HS.out; simpa using this
    by_cases hlt : k < 6
    · have h1 := (ofBytes_take s.data.toList k (by omega)).1
      have h2 := ofBytes_five s.data.toList k (by omega) (by omega)
      have hks : k < s.size := by omega
      have hb := (s[k]'hks).toNat_lt
      have hsn : ofBytes (s.data.toList.take (k + 1)) = 256 * ofBytes (s.data.toList.take k) + ((s[k]'hks).toNat : Int) := by
        rw [List.take_succ_eq_append_getElem (by omega), ofBytes_snoc, Int.mul_comm]; rfl
      have HSN := Lib.hid hsn
      clear hsn hl
      go_wp2
      go_round
      case rel => exact ⟨k + 1, by omega, by go_num, by rw [HSN.out]⟩
      case measure => simp [intOf]; omega
    · obtain rfl : k = 6 := by omega
      have e : s.data.toList.take 6 = s.data.toList := List.take_of_length_le (by omega)
      have HE := Lib.hid e
      clear e hl
      go_wp2
      go_ret
      exact ⟨ret_int (by rw [HE.out]), rfl⟩
set_option maxHeartbeats 1000000 in
theorem refFrameRight_any (f : Frame) (w : World) (hd : f.data.size ≤ 9223372036854775807) : Calls Try.prog 126 #[.agg #[.int .i64 f.dst, .int .i64 f.src, .int .i64 f.type, .string f.data]] w fun e w' => e = .returned (.bool (frameOk f)) ∧ Below w.heap.size w w' := by
  have hb : ∀ o, Below w.heap.size w (w.alloc o) := fun o => (Below.refl _ _).alloc (Nat.le_refl _) o
  have HB := Lib.hid hb
  clear hb
  cases h1 : isAddr f.dst
  · go_enter Try.func126, Try.ntmps126
    go_wp2_with (go_at_call 90; refine (refAddr_any _ _).mono ?_; rw [h1]; rintro e w' ⟨rfl, rfl⟩)
    go_ret
    exact ⟨ret_bool (by simp [frameOk, h1]), HB.out _⟩
  · cases h3 : isAddr f.src
    · go_enter Try.func126, Try.ntmps126
      go_wp2_with (go_at_call 90; refine (refAddr_any _ _).mono ?_; rintro e w' ⟨rfl, rfl⟩)
      go_ret
      exact ⟨ret_bool (by simp [frameOk, isMac, h3]), HB.out _⟩
    · by_cases h2 : classOf f.src = 0
      · by_cases h4 : 0 ≤ f.type
        · by_cases h5 : f.type < 65536
          · have h5' : f.type ≤ 65535 := by omega
            by_cases h6 : f.data.size ≤ 100
            all_goals
              go_enter Try.func126, Try.ntmps126
              go_wp2_with (first
                | (go_at_call 90; refine (refAddr_any _ _).mono ?_; rintro e w' ⟨rfl, rfl⟩)
                | (go_at_call 91; refine (refClass_any _ _ h3).mono ?_; rintro e w' ⟨rfl, rfl⟩))
              go_ret
              exact ⟨ret_bool (by simp [frameOk, isMac, h1, h2, h3, h4, h5', h6]; try omega), HB.out _⟩
          · go_enter Try.func126, Try.ntmps126
            go_wp2_with (first
              | (go_at_call 90; refine (refAddr_any _ _).mono ?_; rintro e w' ⟨rfl, rfl⟩)
              | (go_at_call 91; refine (refClass_any _ _ h3).mono ?_; rintro e w' ⟨rfl, rfl⟩))
            go_ret
            exact ⟨ret_bool (by simp [frameOk]; intros; omega), HB.out _⟩
        · go_enter Try.func126, Try.ntmps126
          go_wp2_with (first
            | (go_at_call 90; refine (refAddr_any _ _).mono ?_; rintro e w' ⟨rfl, rfl⟩)
            | (go_at_call 91; refine (refClass_any _ _ h3).mono ?_; rintro e w' ⟨rfl, rfl⟩))
          go_ret
          exact ⟨ret_bool (by simp [frameOk]; intros; omega), HB.out _⟩
      · go_enter Try.func126, Try.ntmps126
        go_wp2_with (first
          | (go_at_call 90; refine (refAddr_any _ _).mono ?_; rintro e w' ⟨rfl, rfl⟩)
          | (go_at_call 91; refine (refClass_any _ _ h3).mono ?_; rintro e w' ⟨rfl, rfl⟩))
        go_ret
        exact ⟨ret_bool (by simp [frameOk, isMac, h2]), HB.out _⟩
set_option maxHeartbeats 1000000 in
theorem refParse_bad (s : ByteArray) (w : World) (hm : s.size ≤ 9223372036854775807) (h : s.size < 14 ∨ 114 < s.size) : Calls Try.prog 92 #[.string s] w fun e w' => e = .returned (.tuple #[frameV (parseF s).1, .int .i64 (parseF s).2]) ∧ Below w.heap.size w w' := by
  by_cases h1 : s.size < 14
  · have e1 : parseF s = (noFrame, 7) := if_pos h1
    have E1 := Lib.hid e1
    clear e1 h
    go_enter Try.func92, Try.ntmps92
    go_wp2
    rw [E1.out]
    exact bodyPost_ret (v := .tuple #[frameV noFrame, .int .i64 7]) (by simp [results, Try.results92, go_sem, frameV, noFrame]) rfl ⟨rfl, by (repeat (first | (with_reducible assumption) | (with_reducible exact Below.refl _ _) | (refine Below.drew ?_) | (refine Below.alloc ?_ (by simp <;> omega) _) | (refine Below.setCell ?_ (by simp <;> omega) _)))⟩
  · have e1 : parseF s = (noFrame, 8) := by unfold parseF; rw [if_neg h1, if_pos (by omega)]
    have E1 := Lib.hid e1
    have h2 : 114 < s.size := by omega
    clear e1 h
    go_enter Try.func92, Try.ntmps92
    go_wp2
    rw [E1.out]
    exact bodyPost_ret (v := .tuple #[frameV noFrame, .int .i64 8]) (by simp [results, Try.results92, go_sem, frameV, noFrame]) rfl ⟨rfl, by (repeat (first | (with_reducible assumption) | (with_reducible exact Below.refl _ _) | (refine Below.drew ?_) | (refine Below.alloc ?_ (by simp <;> omega) _) | (refine Below.setCell ?_ (by simp <;> omega) _)))⟩
end Go.Proofs.Ytjblfgagafmhcaa.Fw
