/- Part 8 of the proof of one statement: what is written for it by hand and by a program of this seat's, over the given program's form. Conditions: none. -/
import Derived.Test.YtjblfgagafmhcaaZ6
import Derived.Test.YtjblfgagafmhcaaZ7
set_option linter.unusedVariables false
set_option linter.unusedSimpArgs false
namespace Go.Proofs.Ytjblfgagafmhcaa.Fw
open Go.RowKit
def lensOk : List Plan → List (List Bool) → Bool
  | p :: ps, r :: rs => decide (r.length = p.ports.length) && lensOk ps rs
  | _, _ => true
def mayOk (l : Lan) (open_ : List (List Bool)) : Bool := lanRight l && decide (open_.length = l.plans.length) && lensOk l.plans open_
theorem lensOk_drop {ps : List Plan} {rs : List (List Bool)} {j : Nat} {p : Plan} {r : List Bool} (h : ps[j]? = some p) (h' : rs[j]? = some r) (e : lensOk (ps.drop j) (rs.drop j) = lensOk ps rs) :
    (decide (r.length = p.ports.length) && lensOk (ps.drop (j + 1)) (rs.drop (j + 1))) = lensOk ps rs := by
  rw [← e, drop_of_get h, drop_of_get h', lensOk]
def lanV (l : Lan) (A1 A2 : Option Addr) (c1 c2 : Nat) : Value := .agg #[.int .i64 l.segs, .slice A1 l.plans.length c1, .slice A2 l.hosts.length c2]
def segOut (segs : Int) (s : Int) : Bool := decide (s < 0) || decide (segs ≤ s)
theorem maySeg_on (B : Nat) (segs : Int) (w : World) (hB : B < w.heap.size) (hc : w.cell? ⟨B, 0, none⟩ = some (.int .i64 segs)) :
    PredOn Try.prog 116 #[.pointer (some ⟨B, 0, none⟩)] rInt (segOut segs) w := by
  intro W x cs hb hK
  obtain ⟨rfl, f0⟩ := hK
  have hc' := (hb.cell (p := ⟨B, 0, none⟩) hB).trans hc
  have HE := Lib.hid hb
  clear hb
  simp only [rInt]
  by_cases h1 : x < 0
  · go_enter Try.func116, Try.ntmps116
    go_wp2
    go_ret
    exact ⟨ret_bool (by simp [segOut, h1]), HE.out⟩
  · by_cases h2 : segs ≤ x
    all_goals
      go_enter Try.func116, Try.ntmps116
      go_wp2
      go_ret
      exact ⟨ret_bool (by simp [segOut, h1, h2]), HE.out⟩
def mayN (l : Lan) (open_ : List (List Bool)) (segs : List Int) : Int := if mayOk l open_ then (if segs.any (segOut l.segs) then 3 else 0) else 1
set_option maxHeartbeats 1000000 in
set_option maxRecDepth 100000 in
theorem may_any (l : Lan) (A1 A2 A3 A4 : Option Addr) (c1 c2 c3 c4 : Nat) (open_ : List (List Bool)) (segs : List Int) (w : World) (h1 : Sl rPlan w A1 c1 l.plans) (h2 : Sl rHost w A2 c2 l.hosts) (hi : int64 l.segs)
    (h3 : Sl (rSl rBool) w A3 c3 open_) (h4 : Sl rInt w A4 c4 segs) :
    Calls Try.prog 77 #[lanV l A1 A2 c1 c2, .slice A3 open_.length c3, .slice A4 segs.length c4] w fun e w' => e = .returned (.int .i64 (mayN l open_ segs)) ∧ Below w.heap.size w w' := by
  have hn1 := h1.bound
  have hn3 := h3.bound
  have H1 := Lib.hid h1
  have H2 := Lib.hid h2
  have H3 := Lib.hid h3
  have H4 := Lib.hid h4
  clear h1 h2 h3 h4
  have EG := Lib.hid (show Enters Try.prog 116 from enters_of Try.func116 (by kernel_rfl) rfl)
  have HB0 := Lib.hid (show ∀ o, Below w.heap.size w (w.alloc o) from fun o => (Below.refl _ _).alloc (Nat.le_refl _) o)
  unfold lanV
  cases hr : lanRight l
  · have E := Lib.hid (show mayN l open_ segs = 1 from by simp [mayN, mayOk, hr])
    go_enter Try.func77, Try.ntmps77
    go_wp2_with (go_at_call 49; refine (lanRight_any l _ _ _ _ _ (H1.out.below (HB0.out _)) (H2.out.below (HB0.out _)) hi).mono ?_; rw [hr]; rintro e w' ⟨rfl, hb'⟩)
    go_ret
    exact ⟨ret_int E.out.symm, (HB0.out _).trans (hb'.mono (HB0.out _).size)⟩
  · by_cases hl : open_.length = l.plans.length
    · have hlz : (open_.length : Int) = (l.plans.length : Int) := by omega
      go_enter Try.func77, Try.ntmps77
      go_wp2_with fail
      refine (lanRight_any l _ _ _ _ _ (H1.out.below (HB0.out _)) (H2.out.below (HB0.out _)) hi).mono ?_
      rw [hr]
      rintro e w1 ⟨rfl, hb1⟩
      have k0 := blk_below (blk_new w _) hb1
      have r0 := blk_cell (i := 0) k0 rfl
      have r1 := blk_cell (i := 1) k0 rfl
      have K0 := Lib.hid k0
      have BW1 := aside ((HB0.out _).trans (hb1.mono (HB0.out _).size))
      clear k0 hb1
      go_wp2
      go_loopg [7, 23] l.plans.length (fun gg _ s23 wr => ∃ (kk : Nat), kk ≤ l.plans.length ∧ l.plans.length - kk ≤ gg ∧ s23 = .int .i64 kk ∧ Aside (Below w.heap.size w wr) ∧ Aside (Below w1.heap.size w1 wr) ∧ Aside (lensOk (l.plans.drop kk) (open_.drop kk) = lensOk l.plans open_))
      case atStart => exact ⟨0, Nat.zero_le _, by omega, rfl, BW1, aside (Below.refl _ _), aside rfl⟩
      case round =>
        obtain ⟨kk, hkk, hg, rfl, BW, BX, HR⟩ := hrel
        by_cases hlt : kk < l.plans.length
        · have hlz2 : (kk : Int) < (l.plans.length : Int) := by omega
          have hlt3 : kk < open_.length := by omega
          have hlz3 : (kk : Int) < (open_.length : Int) := by omega
          obtain ⟨b, off, x, A0, c0, rfl, hb, hd, hK, f0, f1, q0, q1⟩ := H1.out.atPlan BW.out kk hlt
          obtain ⟨b3, off3, y, A5, c5, rfl, hb3, hd3, hK3, g0, p0⟩ := H3.out.atSl BW.out kk hlt3
          have HR2 := Lib.hid (lensOk_drop hd hd3 HR.out)
          have p0' := fun o => (((Below.refl wr.heap.size wr).alloc (Nat.le_refl _) o).cell (p := ⟨b3, _, none⟩) hb3).trans p0
          clear hK hd hK3 hd3 HR
          by_cases he : y.length = x.ports.length
          · have hez : (y.length : Int) = (x.ports.length : Int) := by omega
            go_wp2_with (go_region)
            all_goals
              go_roundg (l.plans.length - (kk + 1))
              case measure => omega
              case rel => exact ⟨kk + 1, by omega, by omega, by go_num, aside (by have := BW.out.alloc BW.out.size; exact (this _).drew), aside (by have := BX.out.alloc BX.out.size; exact (this _).drew), aside (by rw [← HR2.out]; simp [he])⟩
          · have hez : ¬ (y.length : Int) = (x.ports.length : Int) := by omega
            have E := Lib.hid (show mayN l open_ segs = 1 from by simp [mayN, mayOk, ← HR2.out, he])
            go_wp2_with (go_region)
            all_goals
              go_ret
              exact ⟨ret_int E.out.symm, by have := BW.out.alloc BW.out.size; exact (this _).drew⟩
        · have hlz2 : ¬ (kk : Int) < (l.plans.length : Int) := by omega
          obtain rfl : kk = l.plans.length := by omega
          have hlo : lensOk l.plans open_ = true := by rw [← HR.out, drop_end]; simp [lensOk]
          have hN : mayN l open_ segs = if segs.any (segOut l.segs) then 3 else 0 := by simp [mayN, mayOk, hr, hl, hlo]
          have HN := Lib.hid hN
          have k1 := blk_below K0.out BX.out
          have hcl := blk_cell (i := 0) k1 rfl
          have hlt1 := blk_lt k1
          clear hN hlo HR k1
          cases hq : segs.any (segOut l.segs)
          all_goals
            have HQ := Lib.hid hq
            clear hq
            go_wp2_with (go_at_call 80; refine (containsFunc_int _ _ EG.out _ _ _ _ _ (H4.out.below BW.out) (maySeg_on _ l.segs _ hlt1 hcl)).mono ?_; rw [HQ.out]; rintro e w' ⟨rfl, hb'⟩)
            go_ret
            exact ⟨ret_int (by rw [HN.out, HQ.out]; rfl), BW.out.trans (hb'.mono BW.out.size)⟩
    · have hlz : ¬ (open_.length : Int) = (l.plans.length : Int) := by omega
      have E := Lib.hid (show mayN l open_ segs = 1 from by simp [mayN, mayOk, hr, hl])
      go_enter Try.func77, Try.ntmps77
      go_wp2_with fail
      refine (lanRight_any l _ _ _ _ _ (H1.out.below (HB0.out _)) (H2.out.below (HB0.out _)) hi).mono ?_
      rw [hr]
      rintro e w1 ⟨rfl, hb1⟩
      have k0 := blk_below (blk_new w _) hb1
      have r1 := blk_cell (i := 1) k0 rfl
      clear k0
      go_wp2
      go_ret
      exact ⟨ret_int E.out.symm, (HB0.out _).trans (hb1.mono (HB0.out _).size)⟩
def openSegs : List Link → List Bool → List Int
  | x :: xs, r :: rs => if x.up && r then x.seg :: openSegs xs rs else openSegs xs rs
  | _, _ => []
theorem openSegs_snoc : ∀ (xs : List Link) (rs : List Bool), xs.length = rs.length → ∀ x r, openSegs (xs ++ [x]) (rs ++ [r]) = openSegs xs rs ++ if x.up && r then [x.seg] else []
  | [], [], _, x, r => by cases h : (x.up && r) <;> simp [openSegs, h]
  | y :: ys, s :: ss, h, x, r => by
    have ih := openSegs_snoc ys ss (by simpa using h) x r
    simp only [List.cons_append, openSegs, ih]
    split <;> simp
  | [], _ :: _, h, _, _ => by simp at h
  | _ :: _, [], h, _, _ => by simp at h
theorem openSegs_length : ∀ (xs : List Link) (rs : List Bool), (openSegs xs rs).length ≤ xs.length
  | [], rs => by simp [openSegs]
  | x :: xs, [] => by simp [openSegs]
  | x :: xs, r :: rs => by
    have := openSegs_length xs rs
    simp only [openSegs]
    split <;> simp <;> omega
set_option maxHeartbeats 1000000 in
set_option maxRecDepth 100000 in
theorem opens_any (l : Lan) (A1 A2 A3 : Option Addr) (c1 c2 c3 : Nat) (open_ : List (List Bool)) (b : Nat) (w : World) (h1 : Sl rPlan w A1 c1 l.plans) (h3 : Sl (rSl rBool) w A3 c3 open_)
    (p : Plan) (r : List Bool) (hp : l.plans[b]? = some p) (hr : open_[b]? = some r) (hl : r.length = p.ports.length) (h8 : p.ports.length ≤ 8) :
    Calls Try.prog 79 #[lanV l A1 A2 c1 c2, .slice A3 open_.length c3, .int .i64 b] w fun e w' => ∃ v, e = .returned v ∧ Own rInt 3 w w' w.heap.size v (openSegs p.ports r) ∧ Below w.heap.size w w' := by
  have hbl := (List.getElem?_eq_some_iff.1 hp).1
  have hbo := (List.getElem?_eq_some_iff.1 hr).1
  have hn1 := h1.bound
  have hn3 := h3.bound
  have hbz1 : (b : Int) < (l.plans.length : Int) := by omega
  have hbz3 : (b : Int) < (open_.length : Int) := by omega
  have hz0 : (0 : Int) ≤ (b : Int) := by omega
  have HB0 : Below w.heap.size w (w.alloc (.cells #[.int .i64 l.segs, .slice A1 l.plans.length c1, .slice A2 l.hosts.length c2] 25)) := (Below.refl _ _).alloc (Nat.le_refl _) _
  obtain ⟨b0, off, x, A0, c0, rfl, hb, hd, hK, f0, f1, q0, q1⟩ := h1.atPlan HB0 b hbl
  obtain ⟨b3, off3, y, A5, c5, rfl, hb3, hd3, hK3, g0, p0⟩ := h3.atSl (Below.refl _ _) b hbo
  obtain rfl : x = p := by rw [hp] at hd; exact (Option.some.inj hd).symm
  obtain rfl : y = r := by rw [hr] at hd3; exact (Option.some.inj hd3).symm
  have F1 := Lib.hid f1
  have G0 := Lib.hid g0
  have HBX := Lib.hid HB0
  have H3 := Lib.hid h3
  clear hK hd hK3 hd3 h1 h3 f1 g0 HB0
  unfold lanV
  go_enter Try.func79, Try.ntmps79
  go_wp2
  go_loopg [7, 8, 17] x.ports.length (fun gg s7 _ s17 wr => ∃ (kk : Nat), kk ≤ x.ports.length ∧ x.ports.length - kk ≤ gg ∧ s17 = .int .i64 kk ∧ Aside (Below w.heap.size w wr) ∧ Aside (Own rInt 3 w wr w.heap.size s7 (openSegs (x.ports.take kk) (y.take kk))))
  case atStart => exact ⟨0, Nat.zero_le _, by omega, rfl, aside HBX.out, aside (by simpa [openSegs] using Own.nil rInt 3 w _ w.heap.size)⟩
  case round =>
    obtain ⟨kk, hkk, hg, rfl, BW, HO⟩ := hrel
    by_cases hlt : kk < x.ports.length
    · have hlz : (kk : Int) < (x.ports.length : Int) := by omega
      obtain ⟨bb, off2, z, rfl, hbb, hdz, hKz, u0, u1, m0, m1, m2⟩ := F1.out.atLink BW.out kk hlt
      have hlt2 : kk < y.length := by omega
      have hlz2 : (kk : Int) < (y.length : Int) := by omega
      obtain ⟨bb3, off5, s, rfl, hbb3, hds, hKs, n0⟩ := G0.out.atBool BW.out kk hlt2
      have p0' := (BW.out.cell (p := ⟨b3, _, none⟩) hb3).trans p0
      have hb3' := Nat.lt_of_lt_of_le hb3 BW.out.size
      have HT := Lib.hid (show openSegs (x.ports.take (kk + 1)) (y.take (kk + 1)) = openSegs (x.ports.take kk) (y.take kk) ++ if z.up && s then [z.seg] else [] from by
        rw [take_snoc hdz, take_snoc hds]; exact openSegs_snoc _ _ (by rw [List.length_take, List.length_take]; omega) _ _)
      clear hKz hdz hKs hds
      have hlen : (openSegs (x.ports.take kk) (y.take kk)).length ≤ 8 := Nat.le_trans (openSegs_length _ _) (by rw [List.length_take]; omega)
      have HLEN := Lib.hid hlen
      clear hlen
      have p0'' := fun o => (((Below.refl wr.heap.size wr).alloc (Nat.le_refl _) o).cell (p := ⟨b3, _, none⟩) hb3').trans p0'
      have n0' := fun o => (((Below.refl wr.heap.size wr).alloc (Nat.le_refl _) o).cell (p := ⟨bb3, _, none⟩) hbb3).trans n0
      cases hu : z.up
      · have HT2 := Lib.hid (show openSegs (x.ports.take (kk + 1)) (y.take (kk + 1)) = openSegs (x.ports.take kk) (y.take kk) from by rw [HT.out, hu]; simp)
        rw [hu] at m2
        clear HT hu
        go_wp2
        go_roundg (x.ports.length - (kk + 1))
        case measure => omega
        case rel => exact ⟨kk + 1, by omega, by omega, by go_num, aside (BW.out.alloc BW.out.size _), aside (by rw [HT2.out]; exact HO.out.alloc _)⟩
      · cases hs : s
        · have HT2 := Lib.hid (show openSegs (x.ports.take (kk + 1)) (y.take (kk + 1)) = openSegs (x.ports.take kk) (y.take kk) from by rw [HT.out, hu, hs]; simp)
          rw [hu] at m2
          rw [hs] at n0'
          clear HT hu hs
          go_wp2
          go_roundg (x.ports.length - (kk + 1))
          case measure => omega
          case rel => exact ⟨kk + 1, by omega, by omega, by go_num, aside (BW.out.alloc BW.out.size _), aside (by rw [HT2.out]; exact HO.out.alloc _)⟩
        · have HT2 := Lib.hid (show openSegs (x.ports.take (kk + 1)) (y.take (kk + 1)) = openSegs (x.ports.take kk) (y.take kk) ++ [z.seg] from by rw [HT.out, hu, hs]; simp)
          rw [hu] at m2
          rw [hs] at n0'
          clear HT hu hs
          have HBA := Lib.hid (BW.out.alloc BW.out.size (.cells #[.int .i64 z.seg, .int .i64 z.cost, .bool true] 66))
          go_wp2_with (at_builtin; refine wpList_append1n rInt w.heap.size rfl _ _ 31 3 (.int .i64 0) 8 rfl Try.underlying31 info_int rfl (by decide) (by decide) _ _ z.seg [.int .i64 z.seg] rfl (wr.heap.size + 1) rfl (by rw [World.size_alloc]) ⟨rfl, u0⟩ (HO.out.alloc _) HBA.out.size (by have := HLEN.out; omega) ?_; intro v1 w1 hO1 hg1)
          go_roundg (x.ports.length - (kk + 1))
          case measure => omega
          case rel => exact ⟨kk + 1, by omega, by omega, by go_num, aside (below_grown HBA.out hg1 HBA.out.size (fun k hk => (HO.out.lt k hk).1)), aside (by rw [HT2.out]; exact hO1)⟩
    · have hlz : ¬ (kk : Int) < (x.ports.length : Int) := by omega
      obtain rfl : kk = x.ports.length := by omega
      have hO := HO.out
      rw [List.take_length, List.take_of_length_le (by omega)] at hO
      have HO2 := Lib.hid hO
      clear hO
      go_wp2
      go_ret
      exact ⟨_, rfl, HO2.out, BW.out⟩
end Go.Proofs.Ytjblfgagafmhcaa.Fw
namespace Go.Proofs.Ytjblfgagafmhcaa.K
open Go.RowKit Go.Proofs.YtjblfgagafmhcaaW.PrintWords Go.Proofs.YtjblfgagafmhcaaW.PrintLast Go.Proofs.YtjblfgagafmhcaaW.PrintMore
attribute [local go_sem] max2_int min2_int max_two min_two max_three min_three max_four min_four   -- for this text's walks alone
set_option linter.unusedVariables false
set_option linter.unusedSimpArgs false
noncomputable section
open Classical in
noncomputable def flood_may.f (a0_0 : Int) (l0_1 : List (S64)) (l0_2 : List (S91)) (l1 : List (List Bool)) (l2 : List Int) : Option (Int) :=
 if (∀ x ∈ l0_1, Fw.okPlan x) ∧ (∀ x ∈ l0_2, Fw.okHost x) ∧ Fw.int64 a0_0 ∧ ∀ x ∈ l2, Fw.int64 x then some (Fw.mayN ⟨a0_0, l0_1, l0_2⟩ l1 l2) else none
set_option maxHeartbeats 1000000 in
set_option maxRecDepth 100000 in
theorem flood_may.calls (a0_0 : Int) (A0_1 : Option Addr) (c0_1 : Nat) (l0_1 : List (S64)) (A0_2 : Option Addr) (c0_2 : Nat) (l0_2 : List (S91)) (A1 : Option Addr) (c1 : Nat) (l1 : List (List Bool)) (A2 : Option Addr) (c2 : Nat) (l2 : List Int) (r : Int) (w : World) (hr0_1 : Kd.C k64 w A0_1 l0_1.length l0_1) (hc0_1 : l0_1.length ≤ c0_1) (hr0_2 : Kd.C k91 w A0_2 l0_2.length l0_2) (hc0_2 : l0_2.length ≤ c0_2) (hr1 : Kd.C (Kd.slice 4 Kd.bool) w A1 l1.length l1) (hc1 : l1.length ≤ c1) (hr2 : Kd.C (Kd.int .i64) w A2 l2.length l2) (hc2 : l2.length ≤ c2) (h : flood_may.f a0_0 l0_1 l0_2 l1 l2 = some r) :
  Calls Try.prog 77 #[.agg #[.int .i64 a0_0, .slice A0_1 l0_1.length c0_1, .slice A0_2 l0_2.length c0_2], .slice A1 l1.length c1, .slice A2 l2.length c2] w fun e w' => e = .returned (.int .i64 r) ∧ Below w.heap.size w w' := by
 unfold flood_may.f at h
 split at h
 ·rename_i ok
  obtain rfl := Option.some.inj h
  exact Fw.may_any ⟨a0_0, l0_1, l0_2⟩ A0_1 A0_2 A1 A2 c0_1 c0_2 c1 c2 l1 l2 w (Fw.slPlan hr0_1 hc0_1 ok.1) (Fw.slHost hr0_2 hc0_2 ok.2.1) ok.2.2.1 (Fw.slBools hr1 hc1) (Fw.slInt hr2 hc2 ok.2.2.2)
 ·cases h
end
end Go.Proofs.Ytjblfgagafmhcaa.K
namespace Go.Proofs.Ytjblfgagafmhcaa.Fw
open Go.RowKit
def rVal : Rp Value where
  sz := 1
  vl := fun cs => cs.headD undef
  K := fun _ x cs => cs = [x] ∧ x.oneCell' = true
  len := by rintro w x cs ⟨rfl, _⟩; rfl
  one := by rintro w x cs ⟨rfl, h⟩ u hu; simp at hu; subst hu; exact h
  below := fun _ h => h
theorem Own.ne_type {α β : Type} {d : Rp α} {d' : Rp β} {e e' : TypeId} {w0 w0' w : World} {b b' : Nat} {x v : Value} {xs : List α} {vs : List β} (h : Own d e w0 w b x xs) (h' : Own d' e' w0' w b' v vs) (he : e ≠ e') : x.ownBlock = none ∨ x.ownBlock ≠ v.ownBlock := by
  obtain ⟨_, ⟨_, h2⟩, _⟩ := h
  obtain ⟨_, ⟨_, h3⟩, _⟩ := h'
  rcases h2 with ⟨rfl, _⟩ | ⟨g, _, cur, rfl, _, hh, _⟩
  · exact .inl rfl
  · rcases h3 with ⟨rfl, _⟩ | ⟨g', _, cur', rfl, _, hh', _⟩
    · exact .inr (by simp [Value.ownBlock])
    · refine .inr fun q => ?_
      obtain rfl : g = g' := by simpa [Value.ownBlock] using q
      rw [hh] at hh'
      exact he (by have := Option.some.inj hh'; injection this)
theorem Own.one {α : Type} {d : Rp α} {e : TypeId} {w0 w : World} {b : Nat} {x : Value} {xs : List α} (h : Own d e w0 w b x xs) : x.oneCell' = true := by
  obtain ⟨A, c, rfl, _⟩ := h.form
  rfl
def Rows2 (e : TypeId) (w : World) (base : Nat) (vs : List Value) (rows : List (List Int)) : Prop := vs.length = rows.length ∧ ∀ (j : Nat) (s : List Int), rows[j]? = some s → ∃ x : Value, vs[j]? = some x ∧ Own rInt e w w base x s
theorem Own.re {e : TypeId} {w0 w w1 : World} {base : Nat} {v : Value} {xs : List Int} (h : Own rInt e w0 w base v xs) : Own rInt e w1 w base v xs := by
  obtain ⟨h1, h2⟩ := h.ints
  exact Own.ofInts h1 h2
theorem Own.base {α : Type} {d : Rp α} {e : TypeId} {w0 w : World} {base base' : Nat} {v : Value} {xs : List α} (h : Own d e w0 w base v xs) (hb : base' ≤ base) : Own d e w0 w base' v xs := by
  obtain ⟨cs, ⟨h1, h2⟩, hc⟩ := h
  refine ⟨cs, ⟨h1, ?_⟩, hc⟩
  rcases h2 with h2 | ⟨g, cap, cur, rfl, hg, r⟩
  · exact .inl h2
  · exact .inr ⟨g, cap, cur, rfl, by omega, r⟩
theorem Rows2.kept {e : TypeId} {w w1 : World} {base : Nat} {vs : List Value} {rows : List (List Int)} (h : Rows2 e w base vs rows) (hk : ∀ x s, x ∈ vs → Own rInt e w w base x s → ∀ k, x.ownBlock = some k → w1.heap[k]? = w.heap[k]?) : Rows2 e w1 base vs rows :=
  ⟨h.1, fun j s hj => by
    obtain ⟨x, hx, ho⟩ := h.2 j s hj
    exact ⟨x, hx, (ho.kept (hk x s (List.mem_of_getElem? hx) ho)).re⟩⟩
theorem Rows2.below {e : TypeId} {w w1 : World} {base : Nat} {vs : List Value} {rows : List (List Int)} (h : Rows2 e w base vs rows) (hb : Below w.heap.size w w1) : Rows2 e w1 base vs rows :=
  h.kept fun _ _ _ ho k hk => hb.block k (ho.lt k hk).2
theorem Rows2.snoc {e : TypeId} {w : World} {base : Nat} {vs : List Value} {rows : List (List Int)} (h : Rows2 e w base vs rows) {x : Value} {s : List Int} (ho : Own rInt e w w base x s) : Rows2 e w base (vs ++ [x]) (rows ++ [s]) := by
  refine ⟨by simp [h.1], fun j t hj => ?_⟩
  by_cases hlt : j < rows.length
  · rw [List.getElem?_append_left hlt] at hj
    rw [List.getElem?_append_left (by rw [h.1]; exact hlt)]
    exact h.2 j t hj
  · have hje : j = rows.length := by
      have := (List.getElem?_eq_some_iff.1 hj).1
      simp at this; omega
    subst hje
    obtain rfl : s = t := by simpa using hj
    exact ⟨x, by rw [← h.1]; simp, ho⟩
theorem rows_read {e e' : TypeId} {w0 w : World} {base : Nat} {v : Value} {vs : List Value} {rows : List (List Int)} (hv : Own rVal e w0 w base v vs) (h : Rows2 e' w base vs rows) : ∃ A c, v = .slice A rows.length c ∧ Sl (rSl rInt) w A c rows := by
  obtain ⟨cs, ⟨h1, h2⟩, hc⟩ := hv
  rcases h2 with ⟨rfl, hn⟩ | ⟨g, cap, cur, rfl, hg, hh, r1, r2, r3, r4⟩
  · have : rows = [] := List.eq_nil_of_length_eq_zero (by rw [← h.1]; exact hn)
    subst this
    exact ⟨none, 0, rfl, Sl.nil _ _ _ _⟩
  · refine ⟨_, cap, by rw [h.1], by rw [← h.1]; exact r1, by have := h.1; simp only [maxLen] at r2; omega, fun _ => ⟨g, 0, rfl, (Array.getElem?_eq_some_iff.1 hh).1, fun j s hj => ?_⟩⟩
    obtain ⟨x, hx, ho⟩ := h.2 j s hj
    obtain ⟨a, ⟨rfl, _⟩, hi⟩ := hc.get j x hx
    obtain ⟨A, c, rfl, hS⟩ := ho.reads (Below.refl _ _)
    refine ⟨[.slice A s.length c], ⟨A, c, rfl, hS⟩, fun i u hu => ?_⟩
    have h3 := hi i u hu
    have h4 : cur[j * rVal.sz + i]? = some u := by
      rw [← r4, List.getElem?_take] at h3
      split at h3
      · simpa using h3
      · cases h3
    rw [Nat.zero_add]
    simp only [World.cell?, hh, Option.isSome_none, Bool.false_eq_true, if_false]
    exact h4
def allSegs : List Plan → List (List Bool) → List (List Int)
  | p :: ps, r :: rs => openSegs p.ports r :: allSegs ps rs
  | _, _ => []
theorem allSegs_snoc : ∀ (ps : List Plan) (rs : List (List Bool)), ps.length = rs.length → ∀ p r, allSegs (ps ++ [p]) (rs ++ [r]) = allSegs ps rs ++ [openSegs p.ports r]
  | [], [], _, p, r => by simp [allSegs]
  | y :: ys, s :: ss, h, p, r => by
    simp [allSegs, allSegs_snoc ys ss (by simpa using h) p r]
  | [], _ :: _, h, _, _ => by simp at h
  | _ :: _, [], h, _, _ => by simp at h
def IsNext (w : World) (v : Value) (rows : List (List Int)) : Prop := ∃ B A c, v = .func (.func 150) #[] #[.pointer (some ⟨B, 0, none⟩)] ∧ w.cell? ⟨B, 0, none⟩ = some (.slice A rows.length c) ∧ B < w.heap.size ∧ Sl (rSl rInt) w A c rows
theorem IsNext.below {w w1 : World} {v : Value} {rows : List (List Int)} (h : IsNext w v rows) (hb : Below w.heap.size w w1) : IsNext w1 v rows := by
  obtain ⟨B, A, c, h1, h2, h3, h4⟩ := h
  exact ⟨B, A, c, h1, (hb.cell (p := ⟨B, 0, none⟩) h3).trans h2, Nat.lt_of_lt_of_le h3 hb.size, h4.below hb⟩
def Nexts (w w' : World) (v : Value) (rows : List (List Int)) : Prop := ∀ W : World, (∀ k, w.heap.size ≤ k → k < w'.heap.size → W.heap[k]? = w'.heap[k]?) → w'.heap.size ≤ W.heap.size → IsNext W v rows
theorem info_ints : (Try.prog.info? 31).map (fun i => (i.zero, i.size, i.bytes)) = some (some (.slice none 0 0), 1, 24) := by kernel_rfl
theorem allSegs_length : ∀ (ps : List Plan) (rs : List (List Bool)), (allSegs ps rs).length ≤ ps.length
  | [], rs => by simp [allSegs]
  | p :: ps, [] => by simp [allSegs]
  | p :: ps, r :: rs => by have := allSegs_length ps rs; simp [allSegs]; omega
set_option maxHeartbeats 1000000 in
set_option maxRecDepth 100000 in
theorem neighbours_any (l : Lan) (A1 A2 A3 : Option Addr) (c1 c2 c3 : Nat) (open_ : List (List Bool)) (w : World) (h1 : Sl rPlan w A1 c1 l.plans) (h3 : Sl (rSl rBool) w A3 c3 open_)
    (hlen : open_.length = l.plans.length) (h6 : l.plans.length ≤ 6) (hall : ∀ (j : Nat) (p : Plan) (r : List Bool), l.plans[j]? = some p → open_[j]? = some r → r.length = p.ports.length ∧ p.ports.length ≤ 8) :
    Calls Try.prog 118 #[lanV l A1 A2 c1 c2, .slice A3 open_.length c3] w fun e w' => ∃ v, e = .returned v ∧ Nexts w w' v (allSegs l.plans open_) ∧ Below w.heap.size w w' := by
  have hmf : ∀ (fn : Fn) (first cap : Array Value) (w : World), (Instr.makeFunc fn first cap).run Try.prog w = .ok (.func fn first cap) w := fun _ _ _ _ => rfl
  have hn1 := h1.bound
  have hn3 := h3.bound
  have H1 := Lib.hid h1
  have H3 := Lib.hid h3
  have HALL := Lib.hid hall
  have hle1 : open_.length ≤ l.plans.length := by omega
  have hle2 : l.plans.length ≤ open_.length := by omega
  clear h1 h3 hall hlen
  unfold lanV
  go_enter Try.func118, Try.ntmps118
  go_wp2
  go_loopg [6, 10] l.plans.length (fun gg _ s10 wr => ∃ (kk : Nat) (v : Value) (vs : List Value), kk ≤ l.plans.length ∧ l.plans.length - kk ≤ gg ∧ s10 = .int .i64 kk ∧ Aside (Below w.heap.size w wr) ∧
    Aside (wr.heap[w.heap.size]? = some (.cells #[.int .i64 l.segs, .slice A1 l.plans.length c1, .slice A2 l.hosts.length c2] 25 (0, 0))) ∧ Aside (wr.heap[w.heap.size + 1]? = some (.cells #[v] 116 (0, 0))) ∧
    Aside (Own rVal 31 w wr (w.heap.size + 2) v vs) ∧ Aside (Rows2 3 wr (w.heap.size + 2) vs (allSegs (l.plans.take kk) (open_.take kk))))
  case atStart => exact ⟨0, .slice none 0 0, [], Nat.zero_le _, by omega, rfl, aside (below2 _ _ _), aside (blk_alloc (blk_new _ _) _), aside (by simpa using blk_new (w.alloc _) _), aside (Own.nil rVal 31 w _ _), aside ⟨by simp [allSegs], fun j s hj => by simp [allSegs] at hj⟩⟩
  case round =>
    obtain ⟨kk, v, vs, hkk, hg, rfl, BW, L0, L1, HO, HR⟩ := hrel
    by_cases hlt : kk < l.plans.length
    · have hlz : (kk : Int) < (l.plans.length : Int) := by omega
      have hp := List.getElem?_eq_getElem hlt
      have hr := List.getElem?_eq_getElem (show kk < open_.length by omega)
      generalize l.plans[kk] = p at hp
      generalize open_[kk]'(by omega) = r at hr
      have hpr := HALL.out kk p r hp hr
      have HT := Lib.hid (show allSegs (l.plans.take (kk + 1)) (open_.take (kk + 1)) = allSegs (l.plans.take kk) (open_.take kk) ++ [openSegs p.ports r] from by
        rw [take_snoc hp, take_snoc hr]; exact allSegs_snoc _ _ (by rw [List.length_take, List.length_take]; omega) _ _)
      have HP := Lib.hid hp
      have HRR := Lib.hid hr
      have HPR := Lib.hid hpr
      have hvl : vs.length ≤ 8 := by
        have := HR.out.1
        have h2 := allSegs_length (l.plans.take kk) (open_.take kk)
        rw [List.length_take] at h2
        omega
      have HVL := Lib.hid hvl
      have r0 := blk_cell (i := 0) L0.out rfl
      have r1 := blk_cell (i := 1) L0.out rfl
      have r2 := blk_cell (i := 2) L0.out rfl
      have r3 := blk_cell (i := 0) L1.out rfl
      clear hp hr hpr hvl
      go_wp2_with fail
      focus (refine wp_region_any (by kernel_rfl) ?_; (try (change wpAny _ _ _ _ _ _ _ (World.drew _))); (refine wpAny_take (i := 2) (v := ?_) rfl (by kernel_rfl) (by kernel_rfl) (by kernel_rfl) (fun _ _ _ h => h) (Or.inl ⟨by rfl, ?_⟩) ?_; rotate_left 1; (intro w; go_simp; try (with_reducible rfl))); (refine wpAny_take (i := 3) (v := ?_) rfl (by kernel_rfl) (by kernel_rfl) (by kernel_rfl) (fun _ _ _ h => h) (Or.inl ⟨by rfl, ?_⟩) ?_; rotate_left 1; (intro w; go_simp; try (with_reducible rfl))); refine wpAny_ready (rs := [0, 1]) (by kernel_rfl) (by simp) ?_; (refine AllReady.cons rfl (fun K hK => ?_) ?_); (go_simp; refine hK _ _ ?_; clear hK K); refine wpAny_ready (rs := [1]) (by kernel_rfl) (by simp) ?_; (refine AllReady.cons rfl (fun K hK => ?_) ?_); (go_simp; refine hK _ _ ?_; clear hK K); refine wpAny_ready (rs := [4]) (by kernel_rfl) (by simp) ?_; (refine AllReady.cons rfl (fun K hK => ?_) ?_); (go_simp; go_wp2_with ((go_at_call 79; refine (opens_any l _ _ _ _ _ _ open_ kk _ (H1.out.below BW.out.drew) (H3.out.below BW.out.drew) p r HP.out HRR.out HPR.out.1 HPR.out.2).mono ?_; rintro e w1 ⟨x1, rfl, hx1, hb1⟩; obtain ⟨Ax, cx, hxe, _⟩ := hx1.form; subst hxe; have k0 := blk_below (show wr.drew.heap[w.heap.size + 1]? = _ from L1.out) hb1; have r4 := blk_cell (i := 0) k0 rfl; have r4a := fun o => blk_cell (i := 0) (blk_alloc k0 o) rfl; have k9 := blk_below (show wr.drew.heap[w.heap.size]? = _ from L0.out) hb1; have r5 := blk_cell (i := 0) k9 rfl; have r6 := blk_cell (i := 1) k9 rfl; have r7 := blk_cell (i := 2) k9 rfl; clear k9))); refine wpAny_ready (rs := [5]) (by kernel_rfl) (by simp) ?_; (refine AllReady.cons rfl (fun K hK => ?_) ?_); (go_simp; refine hK _ _ ?_; clear hK K); refine wpAny_ready (rs := [6]) (by kernel_rfl) (by simp) ?_; (refine AllReady.cons rfl (fun K hK => ?_) ?_); ((try simp only [Act.put, List.getElem_toArray, List.getElem_cons_zero, List.getElem_cons_succ, List.setIfInBounds_toArray, List.set_cons_zero, List.set_cons_succ]); rw [if_pos (show Region.wanted _ _ = true from rfl)]; (refine wp_of_step (ops := #[]) (E := True) rfl (step_append1 rVal (w.heap.size + 2) rfl _ _ 116 31 (.slice none 0 0) 24 rfl Try.underlying116 info_ints rfl (by decide) (by decide) v vs (.slice Ax (openSegs p.ports r).length cx) [.slice Ax (openSegs p.ports r).length cx] rfl w1.heap.size rfl rfl ⟨rfl, rfl⟩ ((HO.out.below (show Below wr.heap.size wr wr.drew from (Below.refl _ _).drew)).below hb1) (by have q1 : wr.heap.size ≤ w1.heap.size := hb1.size; have q2 := blk_lt L1.out; omega) (by have := HVL.out; omega) ?_); intro v1 w2 hO1 hg1; have e0 := blk_grown k0 hg1 (fun q => by have := (HO.out.lt _ q.symm).1; omega); have e1 := blk_cell (i := 0) e0 rfl; have e2 := blk_free (i := 0) e0; obtain ⟨A9, c9, hv9, _⟩ := hO1.form; subst hv9); refine hK _ _ ?_; clear hK K); refine wpAny_ready (rs := [7]) (by kernel_rfl) (by simp) ?_; (refine AllReady.cons rfl (fun K hK => ?_) ?_); (go_simp; refine hK _ _ ?_; clear hK K); (refine wpAny_done (by kernel_rfl) ?_ _); rotate_left 1; exact AllReady.nil; exact AllReady.nil; exact AllReady.nil; exact AllReady.nil; exact AllReady.nil; (refine AllReady.cons rfl (fun K hK => ?_) ?_); (go_simp; refine hK _ _ ?_; clear hK K); refine wpAny_ready (rs := [0, 4]) (by kernel_rfl) (by simp) ?_; (refine AllReady.cons rfl (fun K hK => ?_) ?_); (go_simp; refine hK _ _ ?_; clear hK K); refine wpAny_ready (rs := [4]) (by kernel_rfl) (by simp) ?_; (refine AllReady.cons rfl (fun K hK => ?_) ?_); (go_simp; go_wp2_with ((go_at_call 79; refine (opens_any l _ _ _ _ _ _ open_ kk _ (H1.out.below BW.out.drew) (H3.out.below BW.out.drew) p r HP.out HRR.out HPR.out.1 HPR.out.2).mono ?_; rintro e w1 ⟨x1, rfl, hx1, hb1⟩; obtain ⟨Ax, cx, hxe, _⟩ := hx1.form; subst hxe; have k0 := blk_below (show wr.drew.heap[w.heap.size + 1]? = _ from L1.out) hb1; have r4 := blk_cell (i := 0) k0 rfl; have r4a := fun o => blk_cell (i := 0) (blk_alloc k0 o) rfl; have k9 := blk_below (show wr.drew.heap[w.heap.size]? = _ from L0.out) hb1; have r5 := blk_cell (i := 0) k9 rfl; have r6 := blk_cell (i := 1) k9 rfl; have r7 := blk_cell (i := 2) k9 rfl; clear k9))); refine wpAny_ready (rs := [5]) (by kernel_rfl) (by simp) ?_; (refine AllReady.cons rfl (fun K hK => ?_) ?_); (go_simp; refine hK _ _ ?_; clear hK K); refine wpAny_ready (rs := [6]) (by kernel_rfl) (by simp) ?_; (refine AllReady.cons rfl (fun K hK => ?_) ?_); ((try simp only [Act.put, List.getElem_toArray, List.getElem_cons_zero, List.getElem_cons_succ, List.setIfInBounds_toArray, List.set_cons_zero, List.set_cons_succ]); rw [if_pos (show Region.wanted _ _ = true from rfl)]; (refine wp_of_step (ops := #[]) (E := True) rfl (step_append1 rVal (w.heap.size + 2) rfl _ _ 116 31 (.slice none 0 0) 24 rfl Try.underlying116 info_ints rfl (by decide) (by decide) v vs (.slice Ax (openSegs p.ports r).length cx) [.slice Ax (openSegs p.ports r).length cx] rfl w1.heap.size rfl rfl ⟨rfl, rfl⟩ ((HO.out.below (show Below wr.heap.size wr wr.drew from (Below.refl _ _).drew)).below hb1) (by have q1 : wr.heap.size ≤ w1.heap.size := hb1.size; have q2 := blk_lt L1.out; omega) (by have := HVL.out; omega) ?_); intro v1 w2 hO1 hg1; have e0 := blk_grown k0 hg1 (fun q => by have := (HO.out.lt _ q.symm).1; omega); have e1 := blk_cell (i := 0) e0 rfl; have e2 := blk_free (i := 0) e0; obtain ⟨A9, c9, hv9, _⟩ := hO1.form; subst hv9); refine hK _ _ ?_; clear hK K); refine wpAny_ready (rs := [7]) (by kernel_rfl) (by simp) ?_; (refine AllReady.cons rfl (fun K hK => ?_) ?_); (go_simp; refine hK _ _ ?_; clear hK K); (refine wpAny_done (by kernel_rfl) ?_ _); rotate_left 1; exact AllReady.nil; exact AllReady.nil; exact AllReady.nil; exact AllReady.nil; (refine AllReady.cons rfl (fun K hK => ?_) ?_); (go_simp; go_wp2_with ((go_at_call 79; refine (opens_any l _ _ _ _ _ _ open_ kk _ (H1.out.below BW.out.drew) (H3.out.below BW.out.drew) p r HP.out HRR.out HPR.out.1 HPR.out.2).mono ?_; rintro e w1 ⟨x1, rfl, hx1, hb1⟩; obtain ⟨Ax, cx, hxe, _⟩ := hx1.form; subst hxe; have k0 := blk_below (show wr.drew.heap[w.heap.size + 1]? = _ from L1.out) hb1; have r4 := blk_cell (i := 0) k0 rfl; have r4a := fun o => blk_cell (i := 0) (blk_alloc k0 o) rfl; have k9 := blk_below (show wr.drew.heap[w.heap.size]? = _ from L0.out) hb1; have r5 := blk_cell (i := 0) k9 rfl; have r6 := blk_cell (i := 1) k9 rfl; have r7 := blk_cell (i := 2) k9 rfl; clear k9))); refine wpAny_ready (rs := [0, 5]) (by kernel_rfl) (by simp) ?_; (refine AllReady.cons rfl (fun K hK => ?_) ?_); (go_simp; refine hK _ _ ?_; clear hK K); refine wpAny_ready (rs := [5]) (by kernel_rfl) (by simp) ?_; (refine AllReady.cons rfl (fun K hK => ?_) ?_); (go_simp; refine hK _ _ ?_; clear hK K); refine wpAny_ready (rs := [6]) (by kernel_rfl) (by simp) ?_; (refine AllReady.cons rfl (fun K hK => ?_) ?_); ((try simp only [Act.put, List.getElem_toArray, List.getElem_cons_zero, List.getElem_cons_succ, List.setIfInBounds_toArray, List.set_cons_zero, List.set_cons_succ]); rw [if_pos (show Region.wanted _ _ = true from rfl)]; (refine wp_of_step (ops := #[]) (E := True) rfl (step_append1 rVal (w.heap.size + 2) rfl _ _ 116 31 (.slice none 0 0) 24 rfl Try.underlying116 info_ints rfl (by decide) (by decide) v vs (.slice Ax (openSegs p.ports r).length cx) [.slice Ax (openSegs p.ports r).length cx] rfl w1.heap.size rfl rfl ⟨rfl, rfl⟩ ((HO.out.below (show Below wr.heap.size wr wr.drew from (Below.refl _ _).drew)).below hb1) (by have q1 : wr.heap.size ≤ w1.heap.size := hb1.size; have q2 := blk_lt L1.out; omega) (by have := HVL.out; omega) ?_); intro v1 w2 hO1 hg1; have e0 := blk_grown k0 hg1 (fun q => by have := (HO.out.lt _ q.symm).1; omega); have e1 := blk_cell (i := 0) e0 rfl; have e2 := blk_free (i := 0) e0; obtain ⟨A9, c9, hv9, _⟩ := hO1.form; subst hv9); refine hK _ _ ?_; clear hK K); refine wpAny_ready (rs := [7]) (by kernel_rfl) (by simp) ?_; (refine AllReady.cons rfl (fun K hK => ?_) ?_); (go_simp; refine hK _ _ ?_; clear hK K); (refine wpAny_done (by kernel_rfl) ?_ _); rotate_left 1; exact AllReady.nil; exact AllReady.nil; exact AllReady.nil; (refine AllReady.cons rfl (fun K hK => ?_) ?_); (go_simp; refine hK _ _ ?_; clear hK K); refine wpAny_ready (rs := [0]) (by kernel_rfl) (by simp) ?_; (refine AllReady.cons rfl (fun K hK => ?_) ?_); (go_simp; refine hK _ _ ?_; clear hK K); refine wpAny_ready (rs := [6]) (by kernel_rfl) (by simp) ?_; (refine AllReady.cons rfl (fun K hK => ?_) ?_); ((try simp only [Act.put, List.getElem_toArray, List.getElem_cons_zero, List.getElem_cons_succ, List.setIfInBounds_toArray, List.set_cons_zero, List.set_cons_succ]); rw [if_pos (show Region.wanted _ _ = true from rfl)]; (refine wp_of_step (ops := #[]) (E := True) rfl (step_append1 rVal (w.heap.size + 2) rfl _ _ 116 31 (.slice none 0 0) 24 rfl Try.underlying116 info_ints rfl (by decide) (by decide) v vs (.slice Ax (openSegs p.ports r).length cx) [.slice Ax (openSegs p.ports r).length cx] rfl w1.heap.size rfl rfl ⟨rfl, rfl⟩ ((HO.out.below (show Below wr.heap.size wr wr.drew from (Below.refl _ _).drew)).below hb1) (by have q1 : wr.heap.size ≤ w1.heap.size := hb1.size; have q2 := blk_lt L1.out; omega) (by have := HVL.out; omega) ?_); intro v1 w2 hO1 hg1; have e0 := blk_grown k0 hg1 (fun q => by have := (HO.out.lt _ q.symm).1; omega); have e1 := blk_cell (i := 0) e0 rfl; have e2 := blk_free (i := 0) e0; obtain ⟨A9, c9, hv9, _⟩ := hO1.form; subst hv9); refine hK _ _ ?_; clear hK K); refine wpAny_ready (rs := [7]) (by kernel_rfl) (by simp) ?_; (refine AllReady.cons rfl (fun K hK => ?_) ?_); (go_simp; refine hK _ _ ?_; clear hK K); (refine wpAny_done (by kernel_rfl) ?_ _); rotate_left 1; exact AllReady.nil; exact AllReady.nil; exact AllReady.nil; exact AllReady.nil; exact AllReady.nil; exact AllReady.nil)
      all_goals
        have hOw1 := (HO.out.below (show Below wr.heap.size wr wr.drew from (Below.refl _ _).drew)).below hb1
        have hb0 : Below wr.heap.size wr w1 := (show Below wr.heap.size wr wr.drew from (Below.refl _ _).drew).trans hb1
        have hRw1 := (HR.out.below hb0).snoc (hx1.re.base (by have q2 := blk_lt L1.out; exact q2))
        have hlo := fun k (q : v.ownBlock = some k) => (HO.out.lt k q).1
        have hBW := below_grown (BW.out.trans (hb0.mono BW.out.size)) hg1 (Nat.le_trans BW.out.size hb0.size) (fun k q => by have := hlo k q; omega)
        have hL0 := blk_grown (blk_below L0.out hb0) hg1 (fun q => by have := hlo _ q.symm; omega)
        have hk3 : ∀ x s, x ∈ vs ++ [.slice Ax (openSegs p.ports r).length cx] → Own rInt 3 w1 w1 (w.heap.size + 2) x s → ∀ k, x.ownBlock = some k → (w2.setCell ⟨w.heap.size + 1, 0, none⟩ (.slice A9 (vs.length + 1) c9)).heap[k]? = w1.heap[k]? := fun x s _ ho k hk => by
          rw [heap_setCell_other _ _ _ _ (by have := (ho.lt k hk).1; simp; omega)]
          refine hg1.block k (ho.lt k hk).2 (fun q => ?_)
          rcases ho.ne_type hOw1 (by decide) with h | h
          · rw [hk] at h; cases h
          · exact h (by rw [hk, q])
        have HRel := Lib.hid (⟨hBW, hL0, e0, hO1, hRw1.kept hk3⟩ : _ ∧ _ ∧ _ ∧ _ ∧ _)
        clear hOw1 hb0 hRw1 hlo hBW hL0 hk3
        go_wp2
        go_roundg (l.plans.length - (kk + 1))
        case measure => omega
        case rel =>
          obtain ⟨g1, g2, g3, g4, g5⟩ := HRel.out
          rw [List.length_append, List.length_singleton] at g4
          refine ⟨kk + 1, _, _, by omega, by omega, by go_num, aside (g1.setCell (Nat.le_succ _) _), aside ((heap_setCell_other _ _ _ _ (by simp)).trans g2), aside (heap_setCell_same _ _ _ _ _ _ g3), aside (g4.kept fun k hk => heap_setCell_other w2 ⟨w.heap.size + 1, 0, none⟩ k _ (Nat.ne_of_gt (g4.lt k hk).1)), aside (by rw [HT.out]; exact g5)⟩
    · have hlz : ¬ (kk : Int) < (l.plans.length : Int) := by omega
      obtain rfl : kk = l.plans.length := by omega
      have hR := HR.out
      rw [List.take_length, List.take_of_length_le (by omega)] at hR
      have hN : Nexts w wr (.func (.func 150) #[] #[.pointer (some ⟨w.heap.size + 1, 0, none⟩)]) (allSegs l.plans open_) := fun W hW hs => by
        have hO := HO.out.kept (w1 := W) fun k hk => hW k (by have := (HO.out.lt k hk).1; omega) (HO.out.lt k hk).2
        have hR' := hR.kept (w1 := W) fun x s _ ho k hk => hW k (by have := (ho.lt k hk).1; omega) (ho.lt k hk).2
        obtain ⟨A, c, hv, hS⟩ := rows_read hO hR'
        have h1 := (hW (w.heap.size + 1) (by omega) (blk_lt L1.out)).trans L1.out
        rw [hv] at h1
        exact ⟨w.heap.size + 1, A, c, rfl, blk_cell (i := 0) h1 rfl, Nat.lt_of_lt_of_le (blk_lt L1.out) hs, hS⟩
      have HN := Lib.hid hN
      clear hN hR
      go_wp2
      go_ret
      exact ⟨_, rfl, HN.out, BW.out⟩
end Go.Proofs.Ytjblfgagafmhcaa.Fw
namespace Go.Proofs.Ytjblfgagafmhcaa.Fw
open Go.RowKit
def catOf (seg : Int) : List (List Int) → List Int
  | [] => []
  | r :: rs => (if r.any fun y => decide (y = seg) then r else []) ++ catOf seg rs
theorem catOf_snoc (seg : Int) : ∀ (rs : List (List Int)) (r : List Int), catOf seg (rs ++ [r]) = catOf seg rs ++ if r.any fun y => decide (y = seg) then r else []
  | [], r => by simp [catOf]
  | x :: xs, r => by
    rw [List.cons_append, catOf, catOf_snoc seg xs r, catOf, List.append_assoc]
def nextTo (rows : List (List Int)) (seg : Int) : List Int := Lib.compact ((catOf seg rows).mergeSort fun x y => decide (x ≤ y))
theorem catOf_length (seg : Int) : ∀ (rs : List (List Int)), (∀ r ∈ rs, r.length ≤ 8) → (catOf seg rs).length ≤ 8 * rs.length
  | [], _ => by simp [catOf]
  | r :: rs, h => by
    have h1 := catOf_length seg rs fun x hx => h x (List.mem_cons_of_mem _ hx)
    have h2 := h r List.mem_cons_self
    rw [catOf, List.length_append, List.length_cons]
    split
    · omega
    · simp; omega
set_option maxHeartbeats 1000000 in
set_option maxRecDepth 100000 in
theorem next_any (rows : List (List Int)) (B : Nat) (A : Option Addr) (c : Nat) (seg : Int) (w : World) (hc : w.cell? ⟨B, 0, none⟩ = some (.slice A rows.length c)) (hB : B < w.heap.size) (hS : Sl (rSl rInt) w A c rows)
    (h6 : rows.length ≤ 6) (h8 : ∀ r ∈ rows, r.length ≤ 8) :
    Calls Try.prog 150 #[.int .i64 seg, .pointer (some ⟨B, 0, none⟩)] w fun e w' => ∃ v, e = .returned v ∧ Own rInt 3 w w' w.heap.size v (nextTo rows seg) ∧ Below w.heap.size w w' := by
  have hn := hS.bound
  have HS := Lib.hid hS
  have H8 := Lib.hid h8
  clear hS h8
  go_enter Try.func150, Try.ntmps150
  go_wp2
  go_loopg [4, 6, 9] rows.length (fun gg s4 _ s9 wr => ∃ (kk : Nat), kk ≤ rows.length ∧ rows.length - kk ≤ gg ∧ s9 = .int .i64 kk ∧ Aside (Below w.heap.size w wr) ∧ Aside (Own rInt 3 w wr w.heap.size s4 (catOf seg (rows.take kk))))
  case atStart => exact ⟨0, Nat.zero_le _, by omega, rfl, aside (Below.refl _ _), aside (by simpa [catOf] using Own.nil rInt 3 w _ w.heap.size)⟩
  case round =>
    obtain ⟨kk, hkk, hg, rfl, BW, HO⟩ := hrel
    by_cases hlt : kk < rows.length
    · have hlz : (kk : Int) < (rows.length : Int) := by omega
      obtain ⟨b, off, x, A0, c0, rfl, hb, hd, hK, f0, q0⟩ := HS.out.atSl BW.out kk hlt
      have F0 := Lib.hid (f0.below BW.out)
      have HT := Lib.hid (show catOf seg (rows.take (kk + 1)) = catOf seg (rows.take kk) ++ if x.any fun y => decide (y = seg) then x else [] from by rw [take_snoc hd]; exact catOf_snoc _ _ _)
      have hx8 : x.length ≤ 8 := H8.out x (List.mem_of_getElem? hd)
      have hcl : (catOf seg (rows.take kk)).length ≤ 48 := by
        have := catOf_length seg (rows.take kk) fun r hr => H8.out r (List.mem_of_mem_take hr)
        rw [List.length_take] at this
        omega
      have HCL := Lib.hid hcl
      have HX8 := Lib.hid hx8
      clear hK hd f0 hcl hx8
      cases hq : x.any fun y => decide (y = seg)
      · have HT2 := Lib.hid (show catOf seg (rows.take (kk + 1)) = catOf seg (rows.take kk) from by rw [HT.out, hq]; simp)
        have HQ := Lib.hid hq
        clear hq HT
        go_wp2_with (go_at_call 48; refine (contains_int x seg _ _ _ F0.out).mono ?_; rw [HQ.out]; rintro e w' ⟨rfl, rfl⟩)
        go_roundg (rows.length - (kk + 1))
        case measure => omega
        case rel => exact ⟨kk + 1, by omega, by omega, by go_num, BW, aside (by rw [HT2.out]; exact HO.out)⟩
      · have HT2 := Lib.hid (show catOf seg (rows.take (kk + 1)) = catOf seg (rows.take kk) ++ x from by rw [HT.out, hq]; simp)
        have hpos : 0 < x.length := by
          cases x with
          | nil => simp at hq
          | cons => simp
        have hints : ∀ y ∈ x, int64 y := fun y hy => by
          obtain ⟨cs, _, h⟩ := F0.out.all y hy
          exact h
        obtain ⟨b1, off1, hA0, _, hc1⟩ := F0.out.cellsInt hpos
        have HQ := Lib.hid hq
        have HI := Lib.hid hints
        have HC1 := Lib.hid hc1
        clear hq HT hints hc1
        subst hA0
        go_wp2_with (first
          | (go_at_call 48; refine (contains_int x seg _ _ _ F0.out).mono ?_; rw [HQ.out]; rintro e w' ⟨rfl, rfl⟩)
          | (at_builtin; refine wpList_appendN rInt w.heap.size rfl _ _ 31 3 (.int .i64 0) 8 rfl Try.underlying31 info_int rfl (by decide) (by decide) _ _ x (some ⟨b1, off1, none⟩) x.length c0 rfl rfl rfl (x.map (Value.int .i64)) (cellsInt' HI.out) ⟨b1, off1, rfl, fun i u hu => by
              rw [List.getElem?_map] at hu
              obtain ⟨y, hy, rfl⟩ := Option.map_eq_some_iff.1 hu
              have hl := (List.getElem?_eq_some_iff.1 hy).1
              rw [HC1.out i hl, List.getD_eq_getElem?_getD, hy]; rfl⟩ HO.out BW.out.size (by have := HCL.out; have := HX8.out; omega) ?_; intro v1 w1 hO1 hg1))
        go_roundg (rows.length - (kk + 1))
        case measure => omega
        case rel => exact ⟨kk + 1, by omega, by omega, by go_num, aside (below_grown BW.out hg1 BW.out.size (fun k hk => (HO.out.lt k hk).1)), aside (by rw [HT2.out]; exact hO1)⟩
    · have hlz : ¬ (kk : Int) < (rows.length : Int) := by omega
      obtain rfl : kk = rows.length := by omega
      have hO := HO.out
      rw [List.take_length] at hO
      have hcl := catOf_length seg rows H8.out
      have HO2 := Lib.hid hO
      have HCL := Lib.hid (show (catOf seg rows).length ≤ 1000000 by omega)
      clear hO hcl
      go_wp2_with fail
      refine (sort_own HO2.out HCL.out).mono ?_
      rintro e w1 ⟨rfl, hO1, hg1⟩
      go_wp2_with fail
      refine (compact_own hO1 (by rw [List.length_mergeSort]; exact HCL.out)).mono ?_
      rintro e w2 ⟨v', rfl, hO2, hg2, hvb⟩
      go_wp2
      go_ret
      have hb1 := below_grown BW.out hg1 BW.out.size (fun k hk => (HO2.out.lt k hk).1)
      exact ⟨_, rfl, hO2, below_grown hb1 hg2 hb1.size (fun k hk => (HO2.out.lt k hk).1)⟩
end Go.Proofs.Ytjblfgagafmhcaa.Fw
