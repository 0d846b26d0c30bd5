/- Part 6 of the proof of one statement: what is written for it by hand and by a program of this seat's, over the given program's form. Conditions: none. -/
import Derived.Test.YtjblfgagafmhcaaZ4
import Derived.Test.YtjblfgagafmhcaaZ5
import Derived.Shelf.Small.Bits
import Derived.Shelf.Small.Wraps
import Derived.Shelf.Strconv.Itoa0
import Derived.Shelf.Sort.Plain
import Derived.Shelf.Bits.Mul64
import Derived.Shelf.Slices.Turned
import Derived.Ground.Names2Prog
import Derived.Shelf.Slices.Clone
import Derived.Shelf.Slices.CompactI
import Derived.Shelf.Slices.SearchI
import Derived.Shelf.Slices.Cells
import Derived.Shelf.Slices.In.SortNone
import Derived.Test.YtjblfgagafmhcaaProg
import Derived.Sort.OwnSortedInts
set_option linter.unusedVariables false
set_option linter.unusedSimpArgs false
namespace Go.Proofs.Ytjblfgagafmhcaa.Fw
open Go.RowKit
set_option maxRecDepth 100000 in
theorem isPlan_odd (B : Nat) (segs : Int) (w : World) (hs : 1 ≤ segs) (hs2 : segs ≤ 8) (hB : B < w.heap.size) (hc : w.cell? ⟨B, 0, none⟩ = some (.int .i64 segs)) :
    PredOn Try.prog 120 #[.pointer (some ⟨B, 0, none⟩)] rLink (fun x => !linkOk segs x) w := by
  intro W x cs hb hK
  obtain ⟨rfl, f0, f1⟩ := hK
  have hc' := (hb.cell (p := ⟨B, 0, none⟩) hB).trans hc
  have hne : ∀ o, (W.alloc o).cell? ⟨B, 0, none⟩ = some (.int .i64 segs) := fun o => (World.cell?_alloc_past _ _ _ (Nat.lt_of_lt_of_le hB hb.size)).trans hc'
  have hend : ∀ o, Below w.heap.size w (W.alloc o) := fun o => hb.alloc hb.size o
  have HE := Lib.hid hend
  clear hend hb
  simp only [rLink]
  cases h1 : lanIn x.seg 0 (segs - 1)
  · go_enter Try.func120, Try.ntmps120
    go_wp2_with (go_at_call 85; refine (lanIn_any _ _ _ _).mono ?_; rintro e w' ⟨rfl, rfl⟩)
    go_ret
    exact ⟨ret_bool (by simp [linkOk, h1]), HE.out _⟩
  · cases h2 : lanIn x.cost 1 1000
    all_goals
      go_enter Try.func120, Try.ntmps120
      go_wp2_with (go_at_call 85; refine (lanIn_any _ _ _ _).mono ?_; rintro e w' ⟨rfl, rfl⟩)
      go_ret
      exact ⟨ret_bool (by simp [linkOk, h1, h2]), HE.out _⟩
theorem below2 (w : World) (o o' : Obj) : Below w.heap.size w ((w.alloc o).alloc o') := ((Below.refl _ _).alloc (Nat.le_refl _) o).alloc (by simp) o'
set_option maxHeartbeats 400000 in
set_option maxRecDepth 100000 in
theorem isPlan_any (p : Plan) (segs : Int) (A : Option Addr) (c : Nat) (w : World) (hs : 1 ≤ segs) (hs2 : segs ≤ 8) (hS : Sl rLink w A c p.ports) :
    Calls Try.prog 86 #[.agg #[.int .i64 p.id, .slice A p.ports.length c], .int .i64 segs] w fun e w' => e = .returned (.bool (planOk segs p)) ∧ Below w.heap.size w w' := by
  have hmf : ∀ (fn : Fn) (first cap : Array Value) (w : World), (Instr.makeFunc fn first cap).run Try.prog w = .ok (.func fn first cap) w := fun _ _ _ _ => rfl
  have HS := Lib.hid hS
  clear hS
  have hb : ∀ o : Obj, Below w.heap.size w ((w.alloc o).alloc (.cells #[.int .i64 segs] 3)) := fun o => below2 w _ _
  have hc : ∀ o : Obj, ((w.alloc o).alloc (.cells #[.int .i64 segs] 3)).cell? ⟨w.heap.size + 1, 0, none⟩ = some (.int .i64 segs) := fun o => by
    rw [World.cell?_alloc_at _ _ _ _ (by simp)]; rfl
  have HC := Lib.hid hc
  have HB := Lib.hid hb
  clear hc hb
  have eg : Enters Try.prog 120 := enters_of Try.func120 (by kernel_rfl) rfl
  have EG := Lib.hid eg
  clear eg
  cases h1 : lanIn p.id 0 65535
  · go_enter Try.func86, Try.ntmps86
    go_wp2_with (go_at_call 85; refine (lanIn_any _ _ _ _).mono ?_; rintro e w' ⟨rfl, rfl⟩)
    go_ret
    exact ⟨ret_bool (by simp [planOk, h1]), HB.out _⟩
  · cases h2 : lanIn p.ports.length 1 8
    · go_enter Try.func86, Try.ntmps86
      go_wp2_with (go_at_call 85; refine (lanIn_any _ _ _ _).mono ?_; rintro e w' ⟨rfl, rfl⟩)
      go_ret
      exact ⟨ret_bool (by simp [planOk, h1, h2]), HB.out _⟩
    · go_enter Try.func86, Try.ntmps86
      go_wp2_with (first
        | (go_at_call 85; refine (lanIn_any _ _ _ _).mono ?_; rintro e w' ⟨rfl, rfl⟩)
        | (go_at_call 111; refine (containsFunc_Link _ _ EG.out _ _ _ _ _ (HS.out.below (HB.out _)) (isPlan_odd _ _ _ hs hs2 (by simp) (HC.out _))).mono ?_; rintro e w' ⟨rfl, hb'⟩))
      go_ret
      exact ⟨ret_bool (by simp [planOk, h1, h2]), (HB.out _).trans (hb'.mono (HB.out _).size)⟩
set_option maxHeartbeats 1000000 in
set_option maxRecDepth 100000 in
theorem lanRight_any (l : Lan) (A1 A2 : Option Addr) (c1 c2 : Nat) (w : World) (h1 : Sl rPlan w A1 c1 l.plans) (h2 : Sl rHost w A2 c2 l.hosts) (hi : int64 l.segs) :
    Calls Try.prog 49 #[.agg #[.int .i64 l.segs, .slice A1 l.plans.length c1, .slice A2 l.hosts.length c2]] w fun e w' => e = .returned (.bool (lanRight l)) ∧ Below w.heap.size w w' := by
  have H1 := Lib.hid h1
  have H2 := Lib.hid h2
  clear h1 h2
  have hmm := @run_makeMap Try.prog
  cases hs : lanIn l.segs 1 8
  · go_enter Try.func49, Try.ntmps49
    go_wp2_with (go_at_call 85; refine (lanIn_any _ _ _ _).mono ?_; rintro e w' ⟨rfl, rfl⟩)
    go_ret
    exact ⟨ret_bool (by simp [lanRight, hs]), (Below.refl _ _).alloc (Nat.le_refl _) _⟩
  · by_cases hp : l.plans.length ≤ 6
    · by_cases hh : l.hosts.length ≤ 8
      · go_enter Try.func49, Try.ntmps49
        go_wp2_with (go_at_call 85; refine (lanIn_any _ _ _ _).mono ?_; rintro e w' ⟨rfl, rfl⟩)
        have hs' : 1 ≤ l.segs ∧ l.segs ≤ 8 := by simpa [lanIn] using hs
        have hz : ∀ w, (zeroValue 3).run Try.prog w = .ok (.int .i64 0) w := fun w => by kernel_rfl
        have KI : KeyOk Try.prog 3 encI int64 := keyI Try.underlying3
        go_loopg [32] l.plans.length (fun gg s32 wr => ∃ (kk : Nat) (f : Int → Option Value) (met : List Int), kk ≤ l.plans.length ∧ l.plans.length - kk ≤ gg ∧ s32 = .int .i64 kk ∧
          Aside (Below w.heap.size w wr) ∧ Aside (wr.heap[w.heap.size]? = some (.cells #[.int .i64 l.segs, .slice A1 l.plans.length c1, .slice A2 l.hosts.length c2] 25 (0, 0))) ∧
          Aside (MapF encI wr (w.heap.size + 1) kk f) ∧ Aside (MapF encI wr (w.heap.size + 1 + 1) 0 (fun _ => none)) ∧ Aside (MetF f met) ∧ Aside (∀ x ∈ met, int64 x) ∧
          Aside (plansOk l.segs (l.plans.drop kk) met = plansOk l.segs l.plans []))
        case atStart => exact ⟨0, fun _ => none, [], Nat.zero_le _, by omega, rfl, aside ((below2 _ _ _).alloc (by simp; omega) _), aside (blk_alloc (blk_alloc (blk_new _ _) _) _), aside (by simpa using (MapF.made encI (w.alloc _)).alloc _), aside (by simpa using MapF.made encI ((w.alloc _).alloc _)), aside MetF.nil, aside (fun x hx => by simp at hx), aside rfl⟩
        case round =>
          obtain ⟨kk, f, met, hkk, hg, rfl, BW, L0, M1, M2, HF, HM, HR⟩ := hrel
          by_cases hlt : kk < l.plans.length
          · have hlz : (kk : Int) < (l.plans.length : Int) := by omega
            obtain ⟨b, off, x, A0, c0, rfl, hb, hd, hK, f0, f1, q0, q1⟩ := H1.out.atPlan BW.out kk hlt
            have F1 := Lib.hid f1
            have HR1 := HR.out
            rw [drop_of_get hd, plansOk] at HR1
            have HR2 := Lib.hid HR1
            clear hK f1 HR1 hd HR
            have HA := Lib.hid (HF.out.ok HM.out)
            have HA2 := Lib.hid (fun u => HF.out.ok_put HM.out f0 u)
            have r0 := fun o => blk_cell (i := 0) (blk_alloc L0.out o) rfl
            by_cases hm : x.id ∈ met
            · have hl : ∀ o, Sem.run Try.prog (Instr.lookup 70 (.map (some (w.heap.size + 1))) (.int .i64 x.id) false) (wr.alloc o) = .ok (.int .i64 1) (wr.alloc o) := fun o => by
                have := (M1.out.alloc o).look KI HA.out Try.underlying70 (hz _) x.id f0 false
                simpa [(HF.out x.id).1 hm, encI] using this
              have HM1 := Lib.hid hm
              clear hm
              go_wp2_with (at_mapUpdate; refine wpList_storeF _ rfl _ _ _ 70 rfl KI Try.underlying70 _ _ f rfl (M1.out.alloc _) HA.out x.id rfl f0 (.int .i64 2) rfl ?_; intro w1 hM1 hg1; have e0 := blk_cell (i := 0) (blk_grown (blk_new wr _) hg1 (by have := M2.out.lt; simp; omega)) rfl; have hl2 : Sem.run Try.prog (Instr.lookup 70 (.map (some (w.heap.size + 1))) (.int .i64 x.id) false) w1 = .ok (.int .i64 2) w1 := (by have := hM1.look KI (HA2.out _) Try.underlying70 (hz _) x.id f0 false; simpa [put_same, encI] using this))
              go_ret
              have h3 := HR2.out
              rw [if_pos HM1.out] at h3
              exact ⟨ret_bool (by simp [lanRight, ← h3]), below_grown (BW.out.alloc BW.out.size _) hg1 (by have := BW.out.size; simp; omega) (fun k hk => by cases hk; omega)⟩
            · have hl : ∀ o, Sem.run Try.prog (Instr.lookup 70 (.map (some (w.heap.size + 1))) (.int .i64 x.id) false) (wr.alloc o) = .ok (.int .i64 0) (wr.alloc o) := fun o => by
                have := (M1.out.alloc o).look KI HA.out Try.underlying70 (hz _) x.id f0 false
                simpa [(HF.out x.id).2 hm, encI] using this
              have HM1 := Lib.hid hm
              clear hm
              cases hq : planOk l.segs x
              all_goals
                go_wp2_with (first
                  | (at_mapUpdate; refine wpList_storeF _ rfl _ _ _ 70 rfl KI Try.underlying70 _ _ f rfl (M1.out.alloc _) HA.out x.id rfl f0 (.int .i64 1) rfl ?_; intro w1 hM1 hg1; have e0 := blk_cell (i := 0) (blk_grown (blk_new wr _) hg1 (by have := M2.out.lt; simp; omega)) rfl; have e1 := blk_cell (i := 1) (blk_grown (blk_new wr _) hg1 (by have := M2.out.lt; simp; omega)) rfl; have e2 := blk_cell (i := 0) (blk_grown (blk_alloc L0.out _) hg1 (by simp)) rfl; have hb1 := below_grown (BW.out.alloc BW.out.size _) hg1 (by have := BW.out.size; simp; omega) (fun k hk => by cases hk; omega); have hl2 : Sem.run Try.prog (Instr.lookup 70 (.map (some (w.heap.size + 1))) (.int .i64 x.id) false) w1 = .ok (.int .i64 1) w1 := (by have := hM1.look KI (HA2.out _) Try.underlying70 (hz _) x.id f0 false; simpa [put_same, encI] using this))
                  | (go_at_call 86; refine (isPlan_any x l.segs _ _ _ hs'.1 hs'.2 (F1.out.below hb1)).mono ?_; rintro e w2 ⟨rfl, hb2⟩))
              · go_ret
                have h3 := HR2.out
                rw [if_neg HM1.out, if_neg (by simp [hq])] at h3
                exact ⟨ret_bool (by simp [lanRight, ← h3]), hb1.trans (hb2.mono hb1.size)⟩
              · have h3 := HR2.out
                rw [if_neg HM1.out, if_pos hq] at h3
                go_roundg (l.plans.length - (kk + 1))
                case measure => omega
                case rel => exact ⟨kk + 1, _, x.id :: met, by omega, by omega, by go_num, aside (hb1.trans (hb2.mono hb1.size)), aside (blk_below (blk_grown (blk_alloc L0.out _) hg1 (by simp)) hb2), aside (hM1.below hb2), aside (((M2.out.alloc _).grown hg1 (by simp)).below hb2), aside (HF.out.cons _), aside (all_cons f0 HM.out), aside h3⟩
          · have hlz : ¬ (kk : Int) < (l.plans.length : Int) := by omega
            obtain rfl : kk = l.plans.length := by omega
            have hpl : plansOk l.segs l.plans [] = true := by rw [← HR.out, drop_end]; rfl
            have HP := Lib.hid hpl
            clear hpl HR HF HM
            have r0 := blk_cell (i := 2) L0.out rfl
            go_wp2
            go_loopg [57] l.hosts.length (fun gg s57 wr => ∃ (kk : Nat) (f : Int → Option Value) (met : List Int), kk ≤ l.hosts.length ∧ l.hosts.length - kk ≤ gg ∧ s57 = .int .i64 kk ∧
              Aside (Below w.heap.size w wr) ∧ Aside (wr.heap[w.heap.size]? = some (.cells #[.int .i64 l.segs, .slice A1 l.plans.length c1, .slice A2 l.hosts.length c2] 25 (0, 0))) ∧
              Aside (MapF encI wr (w.heap.size + 1 + 1) kk f) ∧ Aside (MetF f met) ∧ Aside (∀ x ∈ met, int64 x) ∧
              Aside (hostsOk l.segs (l.hosts.drop kk) met = hostsOk l.segs l.hosts []))
            case atStart => exact ⟨0, fun _ => none, [], Nat.zero_le _, by omega, rfl, BW, L0, M2, aside MetF.nil, aside (fun x hx => by simp at hx), aside rfl⟩
            case round =>
              clear BW L0 M1 M2 r0
              obtain ⟨kk, f, met, hkk, hg, rfl, BW, L0, M2, HF, HM, HR⟩ := hrel
              by_cases hlt : kk < l.hosts.length
              · have hlz : (kk : Int) < (l.hosts.length : Int) := by omega
                obtain ⟨b, off, x, rfl, hb, hd, hK, f0, f1, q0, q1⟩ := H2.out.atHost BW.out kk hlt
                have HR1 := HR.out
                rw [drop_of_get hd, hostsOk] at HR1
                have HR2 := Lib.hid HR1
                clear hK HR1 hd HR
                have HA := Lib.hid (HF.out.ok HM.out)
                have HA2 := Lib.hid (fun u => HF.out.ok_put HM.out f0 u)
                by_cases hm : x.mac ∈ met
                · have hl : ∀ o, Sem.run Try.prog (Instr.lookup 70 (.map (some (w.heap.size + 1 + 1))) (.int .i64 x.mac) false) (wr.alloc o) = .ok (.int .i64 1) (wr.alloc o) := fun o => by
                    have := (M2.out.alloc o).look KI HA.out Try.underlying70 (hz _) x.mac f0 false
                    simpa [(HF.out x.mac).1 hm, encI] using this
                  have HM1 := Lib.hid hm
                  clear hm
                  cases ha : isAddr x.mac
                  all_goals
                    go_wp2_with (first
                      | (go_at_call 87; first | (refine (class_bad _ _ ha).mono ?_; rintro e w' ⟨rfl, rfl⟩) | (refine (class_ok _ _ ha).mono ?_; rintro e w' ⟨rfl, rfl⟩))
                      | (at_mapUpdate; refine wpList_storeF _ rfl _ _ _ 70 rfl KI Try.underlying70 _ _ f rfl (M2.out.alloc _) HA.out x.mac rfl f0 (.int .i64 2) rfl ?_; intro w1 hM1 hg1; have e0 := blk_cell (i := 0) (blk_grown (blk_new wr _) hg1 (by have := M2.out.lt; simp; omega)) rfl; have e1 := blk_cell (i := 1) (blk_grown (blk_new wr _) hg1 (by have := M2.out.lt; simp; omega)) rfl; have e2 := blk_cell (i := 0) (blk_grown (blk_alloc L0.out _) hg1 (by simp; omega)) rfl; have hb1 := below_grown (BW.out.alloc BW.out.size _) hg1 (by have := BW.out.size; simp; omega) (fun k hk => by cases hk; omega); have hl2 : Sem.run Try.prog (Instr.lookup 70 (.map (some (w.heap.size + 1 + 1))) (.int .i64 x.mac) false) w1 = .ok (.int .i64 2) w1 := (by have := hM1.look KI (HA2.out _) Try.underlying70 (hz _) x.mac f0 false; simpa [put_same, encI] using this)))
                    go_ret
                    have h3 := HR2.out
                    rw [if_pos HM1.out] at h3
                    exact ⟨ret_bool (by simp [lanRight, ← h3]), hb1⟩
                · have hl : ∀ o, Sem.run Try.prog (Instr.lookup 70 (.map (some (w.heap.size + 1 + 1))) (.int .i64 x.mac) false) (wr.alloc o) = .ok (.int .i64 0) (wr.alloc o) := fun o => by
                    have := (M2.out.alloc o).look KI HA.out Try.underlying70 (hz _) x.mac f0 false
                    simpa [(HF.out x.mac).2 hm, encI] using this
                  have HM1 := Lib.hid hm
                  clear hm
                  have h3 := HR2.out
                  rw [if_neg HM1.out] at h3
                  have HR3 := Lib.hid h3
                  clear h3
                  cases ha : isAddr x.mac
                  · go_wp2_with (first
                      | (go_at_call 87; refine (class_bad _ _ ha).mono ?_; rintro e w' ⟨rfl, rfl⟩)
                      | (at_mapUpdate; refine wpList_storeF _ rfl _ _ _ 70 rfl KI Try.underlying70 _ _ f rfl (M2.out.alloc _) HA.out x.mac rfl f0 (.int .i64 1) rfl ?_; intro w1 hM1 hg1; have e0 := blk_cell (i := 0) (blk_grown (blk_new wr _) hg1 (by have := M2.out.lt; simp; omega)) rfl; have e1 := blk_cell (i := 1) (blk_grown (blk_new wr _) hg1 (by have := M2.out.lt; simp; omega)) rfl; have e2 := blk_cell (i := 0) (blk_grown (blk_alloc L0.out _) hg1 (by simp; omega)) rfl; have hb1 := below_grown (BW.out.alloc BW.out.size _) hg1 (by have := BW.out.size; simp; omega) (fun k hk => by cases hk; omega); have hl2 : Sem.run Try.prog (Instr.lookup 70 (.map (some (w.heap.size + 1 + 1))) (.int .i64 x.mac) false) w1 = .ok (.int .i64 1) w1 := (by have := hM1.look KI (HA2.out _) Try.underlying70 (hz _) x.mac f0 false; simpa [put_same, encI] using this)))
                    go_ret
                    have h3 := HR3.out
                    rw [if_neg (by simp [isMac, ha])] at h3
                    exact ⟨ret_bool (by simp [lanRight, ← h3]), hb1⟩
                  · by_cases hc : classOf x.mac = 0
                    · cases hin : lanIn x.seg 0 (l.segs - 1)
                      all_goals
                        go_wp2_with (first
                          | (go_at_call 87; refine (class_ok _ _ ha).mono ?_; rintro e w' ⟨rfl, rfl⟩)
                          | (go_at_call 85; refine (lanIn_any _ _ _ _).mono ?_; rintro e w' ⟨rfl, rfl⟩)
                          | (at_mapUpdate; refine wpList_storeF _ rfl _ _ _ 70 rfl KI Try.underlying70 _ _ f rfl (M2.out.alloc _) HA.out x.mac rfl f0 (.int .i64 1) rfl ?_; intro w1 hM1 hg1; have e0 := blk_cell (i := 0) (blk_grown (blk_new wr _) hg1 (by have := M2.out.lt; simp; omega)) rfl; have e1 := blk_cell (i := 1) (blk_grown (blk_new wr _) hg1 (by have := M2.out.lt; simp; omega)) rfl; have e2 := blk_cell (i := 0) (blk_grown (blk_alloc L0.out _) hg1 (by simp; omega)) rfl; have hb1 := below_grown (BW.out.alloc BW.out.size _) hg1 (by have := BW.out.size; simp; omega) (fun k hk => by cases hk; omega); have hl2 : Sem.run Try.prog (Instr.lookup 70 (.map (some (w.heap.size + 1 + 1))) (.int .i64 x.mac) false) w1 = .ok (.int .i64 1) w1 := (by have := hM1.look KI (HA2.out _) Try.underlying70 (hz _) x.mac f0 false; simpa [put_same, encI] using this)))
                      · go_ret
                        have h3 := HR3.out
                        rw [if_neg (by simp [hin])] at h3
                        exact ⟨ret_bool (by simp [lanRight, ← h3]), hb1⟩
                      · have h3 := HR3.out
                        rw [if_pos (by simp [isMac, ha, hc, hin])] at h3
                        go_roundg (l.hosts.length - (kk + 1))
                        case measure => omega
                        case rel => exact ⟨kk + 1, _, x.mac :: met, by omega, by omega, by go_num, aside hb1, aside (blk_grown (blk_alloc L0.out _) hg1 (by simp; omega)), aside hM1, aside (HF.out.cons _), aside (all_cons f0 HM.out), aside h3⟩
                    · go_wp2_with (first
                        | (go_at_call 87; refine (class_ok _ _ ha).mono ?_; rintro e w' ⟨rfl, rfl⟩)
                        | (at_mapUpdate; refine wpList_storeF _ rfl _ _ _ 70 rfl KI Try.underlying70 _ _ f rfl (M2.out.alloc _) HA.out x.mac rfl f0 (.int .i64 1) rfl ?_; intro w1 hM1 hg1; have e0 := blk_cell (i := 0) (blk_grown (blk_new wr _) hg1 (by have := M2.out.lt; simp; omega)) rfl; have e1 := blk_cell (i := 1) (blk_grown (blk_new wr _) hg1 (by have := M2.out.lt; simp; omega)) rfl; have e2 := blk_cell (i := 0) (blk_grown (blk_alloc L0.out _) hg1 (by simp; omega)) rfl; have hb1 := below_grown (BW.out.alloc BW.out.size _) hg1 (by have := BW.out.size; simp; omega) (fun k hk => by cases hk; omega); have hl2 : Sem.run Try.prog (Instr.lookup 70 (.map (some (w.heap.size + 1 + 1))) (.int .i64 x.mac) false) w1 = .ok (.int .i64 1) w1 := (by have := hM1.look KI (HA2.out _) Try.underlying70 (hz _) x.mac f0 false; simpa [put_same, encI] using this)))
                      go_ret
                      have h3 := HR3.out
                      rw [if_neg (by simp [isMac, hc])] at h3
                      exact ⟨ret_bool (by simp [lanRight, ← h3]), hb1⟩
              · have hlz : ¬ (kk : Int) < (l.hosts.length : Int) := by omega
                obtain rfl : kk = l.hosts.length := by omega
                have hho : hostsOk l.segs l.hosts [] = true := by rw [← HR.out, drop_end]; rfl
                have HO := Lib.hid hho
                clear hho HR
                go_wp2
                go_ret
                exact ⟨ret_bool (by simp [lanRight, hs, hp, hh, HP.out, HO.out]), BW.out⟩
      · go_enter Try.func49, Try.ntmps49
        go_wp2_with (go_at_call 85; refine (lanIn_any _ _ _ _).mono ?_; rintro e w' ⟨rfl, rfl⟩)
        go_ret
        exact ⟨ret_bool (by simp [lanRight, hs, hh]), (Below.refl _ _).alloc (Nat.le_refl _) _⟩
    · go_enter Try.func49, Try.ntmps49
      go_wp2_with (go_at_call 85; refine (lanIn_any _ _ _ _).mono ?_; rintro e w' ⟨rfl, rfl⟩)
      go_ret
      exact ⟨ret_bool (by simp [lanRight, hs, hp]), (Below.refl _ _).alloc (Nat.le_refl _) _⟩
end Go.Proofs.Ytjblfgagafmhcaa.Fw
namespace Go.Proofs.Ytjblfgagafmhcaa.Fw
open Go.RowKit
theorem any_of_drop {α : Type} {p : α → Bool} {xs : List α} {j : Nat} {x : α} (h : xs[j]? = some x) (r : (xs.drop j).any p = xs.any p) : (p x || (xs.drop (j + 1)).any p) = xs.any p := by
  rw [← r, drop_of_get h, List.any_cons]
theorem all_of_drop {α : Type} {p : α → Bool} {xs : List α} {j : Nat} {x : α} (h : xs[j]? = some x) (r : (xs.drop j).all p = xs.all p) : (p x && (xs.drop (j + 1)).all p) = xs.all p := by
  rw [← r, drop_of_get h, List.all_cons]
def sameL : List Int → List Int → Bool
  | x :: xs, y :: ys => decide (x = y) && sameL xs ys
  | _, _ => true
theorem sameL_iff : ∀ {a b : List Int}, a.length = b.length → (sameL a b = true ↔ a = b)
  | [], [], _ => by simp [sameL]
  | x :: xs, y :: ys, h => by simp [sameL, sameL_iff (a := xs) (b := ys) (by simpa using h)]
  | [], _ :: _, h => by simp at h
  | _ :: _, [], h => by simp at h
theorem same_eq {a b : List Int} : (decide (a.length = b.length) && sameL a b) = decide (a = b) := by
  by_cases h : a.length = b.length
  · rw [Bool.eq_iff_iff]; simp [h, sameL_iff h]
  · have : a ≠ b := fun e => h (by rw [e])
    simp [h, this]
end Go.Proofs.Ytjblfgagafmhcaa.Fw
namespace Go.Proofs
open Go.Shelf
def Try.lays189_ren : Go.Shelf.Ren := ⟨fun | 189 => 112 | 125 => 145 | 257 => 144 | 128 => 176 | 129 => 177 | 294 => 167 | 295 => 168 | 296 => 169 | 297 => 170 | 298 => 171 | 299 => 172 | 216 => 173 | 300 => 174 | 301 => 175 | 328 => 194 | 329 => 195 | 330 => 196 | 331 => 197 | 332 => 198 | 215 => 156 | 343 => 204 | n => n, fun | 28 => 31 | 3 => 3 | 46 => 160 | 0 => 0 | 51 => 205 | 53 => 52 | 4 => 4 | 183 => 224 | 182 => 223 | 131 => 228 | 5 => 5 | 9 => 9 | 218 => 249 | 222 => 253 | 228 => 259 | 229 => 101 | n => n, fun | n => n⟩
theorem Try.lays189 : Go.Proofs.Lays.n189 Try.prog Try.lays189_ren := {
  mixed := by kernel_rfl
  f125 := Try.func145.trans (congrArg some (by kernel_rfl))
  f128 := Try.func176.trans (congrArg some (by kernel_rfl))
  f129 := Try.func177.trans (congrArg some (by kernel_rfl))
  f189 := Try.func112.trans (congrArg some (by kernel_rfl))
  f215 := Try.func156.trans (congrArg some (by kernel_rfl))
  f216 := Try.func173.trans (congrArg some (by kernel_rfl))
  f257 := Try.func144.trans (congrArg some (by kernel_rfl))
  f294 := Try.func167.trans (congrArg some (by kernel_rfl))
  f295 := Try.func168.trans (congrArg some (by kernel_rfl))
  f296 := Try.func169.trans (congrArg some (by kernel_rfl))
  f297 := Try.func170.trans (congrArg some (by kernel_rfl))
  f298 := Try.func171.trans (congrArg some (by kernel_rfl))
  f299 := Try.func172.trans (congrArg some (by kernel_rfl))
  f300 := Try.func174.trans (congrArg some (by kernel_rfl))
  f301 := Try.func175.trans (congrArg some (by kernel_rfl))
  f328 := Try.func194.trans (congrArg some (by kernel_rfl))
  f329 := Try.func195.trans (congrArg some (by kernel_rfl))
  f330 := Try.func196.trans (congrArg some (by kernel_rfl))
  f331 := Try.func197.trans (congrArg some (by kernel_rfl))
  f332 := Try.func198.trans (congrArg some (by kernel_rfl))
  f343 := Try.func204.trans (congrArg some (by kernel_rfl))
  t0 := Try.underlying0
  a0 := Try.isAgg0
  z0 := Try.sizeOf0
  v0 := Try.zeroValue0
  t3 := Try.underlying3
  a3 := Try.isAgg3
  z3 := Try.sizeOf3
  v3 := Try.zeroValue3
  t4 := Try.underlying4
  a4 := Try.isAgg4
  z4 := Try.sizeOf4
  v4 := Try.zeroValue4
  t5 := Try.underlying5
  a5 := Try.isAgg5
  z5 := Try.sizeOf5
  v5 := Try.zeroValue5
  t9 := Try.underlying9
  a9 := Try.isAgg9
  z9 := Try.sizeOf9
  v9 := Try.zeroValue9
  t28 := Try.underlying31
  a28 := Try.isAgg31
  z28 := Try.sizeOf31
  v28 := Try.zeroValue31
  t46 := Try.underlying160
  a46 := Try.isAgg160
  z46 := Try.sizeOf160
  v46 := Try.zeroValue160
  t51 := Try.underlying205
  a51 := Try.isAgg205
  z51 := Try.sizeOf205
  v51 := Try.zeroValue205
  t53 := Try.underlying52
  a53 := Try.isAgg52
  z53 := Try.sizeOf52
  v53 := Try.zeroValue52
  t131 := Try.underlying228
  a131 := Try.isAgg228
  z131 := Try.sizeOf228
  v131 := Try.zeroValue228
  t182 := Try.underlying223
  a182 := Try.isAgg223
  z182 := Try.sizeOf223
  v182 := Try.zeroValue223
  t183 := Try.underlying224
  a183 := Try.isAgg224
  z183 := Try.sizeOf224
  v183 := Try.zeroValue224
  t218 := Try.underlying249
  a218 := Try.isAgg249
  z218 := Try.sizeOf249
  v218 := Try.zeroValue249
  t222 := Try.underlying253
  a222 := Try.isAgg253
  z222 := Try.sizeOf253
  v222 := Try.zeroValue253
  t228 := Try.underlying259
  a228 := Try.isAgg259
  z228 := Try.sizeOf259
  v228 := Try.zeroValue259
  t229 := Try.underlying101
  a229 := Try.isAgg101
  z229 := Try.sizeOf101
  v229 := Try.zeroValue101 }
open Go.Sort Go.RowKit in
theorem Try.slices_Sort_int (blk off cap : Nat) (zs : List Int) (w : World) (hH : Holds (Value.int .i64) w blk off zs.toArray) (hblk : blk < w.heap.size) (hsz : zs.length < 4611686018427387904) :
    Calls Try.prog 112 #[.slice (some ⟨blk, off, none⟩) zs.length cap] w fun e w' =>
      e = .returned (.tuple #[]) ∧ ∃ n os, w' = grow (putRow (Value.int .i64) (Sort.ahead w n) blk off (zs.mergeSort fun x y => decide (x ≤ y)).toArray) os := Any.slices_Sort_int Try.lays189 blk off cap zs w hH hblk hsz
def Try.lays212_ren : Go.Shelf.Ren := ⟨fun | 212 => 149 | 263 => 181 | 264 => 182 | n => n, fun | 46 => 160 | 51 => 205 | 146 => 234 | 53 => 52 | 148 => 236 | n => n, fun | n => n⟩
theorem Try.lays212 : Go.Proofs.Lays.n212 Try.prog Try.lays212_ren := {
  mixed := by kernel_rfl
  f212 := Try.func149.trans (congrArg some (by kernel_rfl))
  f263 := Try.func181.trans (congrArg some (by kernel_rfl))
  f264 := Try.func182.trans (congrArg some (by kernel_rfl))
  t46 := Try.underlying160
  a46 := Try.isAgg160
  z46 := Try.sizeOf160
  v46 := Try.zeroValue160
  t51 := Try.underlying205
  a51 := Try.isAgg205
  z51 := Try.sizeOf205
  v51 := Try.zeroValue205
  t53 := Try.underlying52
  a53 := Try.isAgg52
  z53 := Try.sizeOf52
  v53 := Try.zeroValue52
  t146 := Try.underlying234
  a146 := Try.isAgg234
  z146 := Try.sizeOf234
  v146 := Try.zeroValue234
  t148 := Try.underlying236
  a148 := Try.isAgg236
  z148 := Try.sizeOf236
  v148 := Try.zeroValue236 }
open Go.RowKit Go.Lib in
theorem Try.bits_Mul (x y : Nat) (hx : x < 18446744073709551616) (hy : y < 18446744073709551616) (w : World) :
    Calls Try.prog 149 #[.int .u64 x, .int .u64 y] w fun e w' => e = .returned (.tuple #[.int .u64 ((x * y / 18446744073709551616 : Nat) : Int), .int .u64 ((x * y % 18446744073709551616 : Nat) : Int)]) ∧ w' = w := Any.bits_Mul Try.lays212 x y hx hy w
def Try.lays107_ren : Go.Shelf.Ren := ⟨fun | 107 => 48 | 108 => 84 | n => n, fun | 28 => 31 | 3 => 3 | 4 => 4 | 0 => 0 | n => n, fun | n => n⟩
theorem Try.lays107 : Go.Proofs.Lays.n107 Try.prog Try.lays107_ren := {
  mixed := by kernel_rfl
  f107 := Try.func48.trans (congrArg some (by kernel_rfl))
  f108 := Try.func84.trans (congrArg some (by kernel_rfl))
  t0 := Try.underlying0
  a0 := Try.isAgg0
  z0 := Try.sizeOf0
  v0 := Try.zeroValue0
  t3 := Try.underlying3
  a3 := Try.isAgg3
  z3 := Try.sizeOf3
  v3 := Try.zeroValue3
  t4 := Try.underlying4
  a4 := Try.isAgg4
  z4 := Try.sizeOf4
  v4 := Try.zeroValue4
  t28 := Try.underlying31
  a28 := Try.isAgg31
  z28 := Try.sizeOf31
  v28 := Try.zeroValue31 }
open Go.Lib in
theorem Try.slices_Contains_int (b off n c : Nat) (zs : List Int) (x : Int) (w : World) (hz : n ≤ zs.length) (hbig : n ≤ 9223372036854775807) (hc : ∀ j, j < zs.length → w.cell? ⟨b, off + j, none⟩ = some (.int .i64 (zs.getD j 0))) :
    Calls Try.prog 48 #[.slice (some ⟨b, off, none⟩) n c, .int .i64 x] w fun e w' => e = .returned (.bool ((zs.take n).contains x)) ∧ w' = w := Any.slices_Contains_int Try.lays107 b off n c zs x w hz hbig hc
open Go.Lib in
theorem Try.slices_Contains_int_empty (a : Option Addr) (c : Nat) (x : Int) (w : World) :
    Calls Try.prog 48 #[.slice a 0 c, .int .i64 x] w fun e w' => e = .returned (.bool false) ∧ w' = w := Any.slices_Contains_int_empty Try.lays107 a c x w
def Try.laysNm220_ren : Go.Shelf.Ren := ⟨fun | 20 => 151 | n => n, fun | 22 => 31 | 3 => 3 | 4 => 4 | 0 => 0 | n => n, fun | n => n⟩
theorem Try.laysNm220 : Go.Proofs.Lays2.n20 Try.prog Try.laysNm220_ren := {
  mixed := by kernel_rfl
  f20 := Try.func151.trans (congrArg some (by kernel_rfl))
  t0 := Try.underlying0
  a0 := Try.isAgg0
  z0 := Try.sizeOf0
  v0 := Try.zeroValue0
  t3 := Try.underlying3
  a3 := Try.isAgg3
  z3 := Try.sizeOf3
  v3 := Try.zeroValue3
  t4 := Try.underlying4
  a4 := Try.isAgg4
  z4 := Try.sizeOf4
  v4 := Try.zeroValue4
  t22 := Try.underlying31
  a22 := Try.isAgg31
  z22 := Try.sizeOf31
  v22 := Try.zeroValue31
  i3 := by kernel_rfl }
open Go.RowKit Go.Lib Go.Sort in
theorem Try.slices_Compact_int (blk off cap : Nat) (zs : List Int) (w : World) (hH : Holds (Value.int .i64) w blk off zs.toArray) (hsz : zs.length ≤ 9223372036854775807) (hcap : zs.length ≤ cap) :
    Calls Try.prog 151 #[.slice (some ⟨blk, off, none⟩) zs.length cap] w fun e w' => e = .returned (.slice (some ⟨blk, off, none⟩) (Lib.compact zs).length cap) ∧ ∃ q, w' = putRow (Value.int .i64) (Sort.ahead w q) blk off (Lib.compact zs ++ List.replicate (zs.length - (Lib.compact zs).length) 0).toArray := Any.slices_Compact_int Try.laysNm220 blk off cap zs w hH hsz hcap
open Go.RowKit Go.Lib Go.Sort in
theorem Try.slices_Compact_int_empty (a : Option Addr) (cap : Nat) (w : World) :
    Calls Try.prog 151 #[.slice a 0 cap] w fun e w' => e = .returned (.slice a 0 cap) ∧ w' = w := Any.slices_Compact_int_empty Try.laysNm220 a cap w
open Go.RowKit Go.Sort in
theorem Try.slices_Sort_int_none (p : Option Addr) (cap : Nat) (w : World) :
    Calls Try.prog 112 #[.slice p 0 cap] w fun e w' => e = .returned (.tuple #[]) ∧ w' = w := Any.slices_Sort_int_none Try.lays189 p cap w
end Go.Proofs
namespace Go.Proofs.Ytjblfgagafmhcaa.Fw
open Go.RowKit Go.Sort
theorem cellsInt {w0 : World} : ∀ {xs : List Int} {cs : List Value}, Cells rInt w0 xs cs → cs = xs.map (Value.int .i64) ∧ ∀ x ∈ xs, int64 x
  | [], cs, h => by simp only [Cells] at h; subst h; exact ⟨rfl, fun x hx => by simp at hx⟩
  | x :: xs, cs, ⟨a, r, e, h1, h2⟩ => by
    obtain ⟨e1, f⟩ := h1
    obtain ⟨e2, f2⟩ := cellsInt h2
    subst e; subst e1; subst e2
    exact ⟨rfl, all_cons f f2⟩
theorem cellsInt' {w0 : World} : ∀ {xs : List Int}, (∀ x ∈ xs, int64 x) → Cells rInt w0 xs (xs.map (Value.int .i64))
  | [], _ => rfl
  | x :: xs, h => ⟨[.int .i64 x], xs.map (Value.int .i64), rfl, ⟨rfl, h x List.mem_cons_self⟩, cellsInt' fun y hy => h y (List.mem_cons_of_mem _ hy)⟩
theorem Own.ints {e : TypeId} {w0 w : World} {base : Nat} {v : Value} {xs : List Int} (h : Own rInt e w0 w base v xs) : w.ownsRow base e 1 v xs.length (xs.map (Value.int .i64)) ∧ ∀ x ∈ xs, int64 x := by
  obtain ⟨cs, h1, h2⟩ := h
  obtain ⟨rfl, h3⟩ := cellsInt h2
  exact ⟨h1, h3⟩
theorem Own.ofInts {e : TypeId} {w0 w : World} {base : Nat} {v : Value} {xs : List Int} (h : w.ownsRow base e 1 v xs.length (xs.map (Value.int .i64))) (hx : ∀ x ∈ xs, int64 x) : Own rInt e w0 w base v xs := ⟨_, h, cellsInt' hx⟩
theorem Sl.cellsInt {w : World} {A : Option Addr} {c : Nat} {xs : List Int} (h : Sl rInt w A c xs) (hp : 0 < xs.length) : ∃ b off, A = some ⟨b, off, none⟩ ∧ b < w.heap.size ∧ ∀ j, j < xs.length → w.cell? ⟨b, off + j, none⟩ = some (.int .i64 (xs.getD j 0)) := by
  obtain ⟨b, off, e, hlt, hx⟩ := h.2.2 hp
  refine ⟨b, off, e, hlt, fun j hj => ?_⟩
  obtain ⟨cs, ⟨rfl, _⟩, hc⟩ := hx j xs[j] (List.getElem?_eq_getElem hj)
  have := hc 0 _ rfl
  simp only [rInt, Nat.mul_one, Nat.add_zero] at this
  rw [this, List.getD_eq_getElem?_getD, List.getElem?_eq_getElem hj]; rfl
theorem contains_int (xs : List Int) (x : Int) (A : Option Addr) (c : Nat) (w : World) (hS : Sl rInt w A c xs) :
    Calls Try.prog 48 #[.slice A xs.length c, .int .i64 x] w fun e w' => e = .returned (.bool (xs.any fun y => decide (y = x))) ∧ w' = w := by
  have he : xs.contains x = xs.any fun y => decide (y = x) := by
    rw [Bool.eq_iff_iff]; simp
  by_cases hp : 0 < xs.length
  · obtain ⟨b, off, rfl, _, hc⟩ := hS.cellsInt hp
    have := Try.slices_Contains_int b off xs.length c xs x w (Nat.le_refl _) hS.bound hc
    rw [List.take_length, he] at this
    exact this
  · obtain rfl : xs = [] := List.eq_nil_of_length_eq_zero (by omega)
    exact Try.slices_Contains_int_empty A c x w
theorem mergeSort_int64 {xs : List Int} (h : ∀ x ∈ xs, int64 x) : ∀ x ∈ xs.mergeSort (fun x y => decide (x ≤ y)), int64 x := fun x hx => h x (List.mem_mergeSort.1 hx)
theorem sort_own {e : TypeId} {w0 w : World} {base : Nat} {v : Value} {xs : List Int} (h : Own rInt e w0 w base v xs) (hl : xs.length ≤ 1000000) :
    Calls Try.prog 112 #[v] w fun r w' => r = .returned (.tuple #[]) ∧ Own rInt e w0 w' base v (xs.mergeSort fun x y => decide (x ≤ y)) ∧ w.grownBy w' v.ownBlock := by
  obtain ⟨h1, h2⟩ := h.ints
  rcases h1.2 with ⟨rfl, hn⟩ | ⟨g, cap, cur, rfl, hg, hh, r1, r2, r3, r4⟩
  · obtain rfl := List.eq_nil_of_length_eq_zero hn
    refine (Try.slices_Sort_int_none none 0 w).mono ?_
    rintro r w' ⟨rfl, rfl⟩
    exact ⟨rfl, by simpa using Own.nil rInt e w0 w' base, ⟨rfl, rfl, rfl, Nat.le_refl _, fun _ _ _ => rfl⟩⟩
  · have hH := holds_of_blockI hh (by simpa using r4)
    refine (Try.slices_Sort_int g 0 cap xs w hH (Array.getElem?_eq_some_iff.1 hh).1 (by omega)).mono ?_
    rintro r w' ⟨rfl, n, os, rfl⟩
    have hlen : (xs.mergeSort fun x y => decide (x ≤ y)).length = xs.length := List.length_mergeSort xs
    have h3 := ownsRow_sortedI (n := n) (os := os) (base := base) hlen hg hh r1 r2 r3
    exact ⟨rfl, Own.ofInts (by rw [hlen]; exact h3) (mergeSort_int64 h2), grownBy_sortedI _⟩
theorem compact_len (xs : List Int) : (Lib.compact xs).length ≤ xs.length := by
  unfold Lib.compact Lib.compactUpTo
  rw [List.length_map]
  exact Nat.le_trans (List.length_filter_le _ _) (by simp)
theorem compact_sub (xs : List Int) : ∀ x ∈ Lib.compact xs, x ∈ xs := fun x hx => by
  unfold Lib.compact Lib.compactUpTo at hx
  obtain ⟨j, hj, rfl⟩ := List.mem_map.1 hx
  have hj' : j < xs.length := by simpa using (List.mem_filter.1 hj).1
  rw [getElem!_pos _ j (by simpa using hj')]
  simp
theorem compact_upto (d : Array Int) : ∀ m j, j < m → d[j]! ∈ Lib.compactUpTo d m
  | 0, j, h => by omega
  | m + 1, j, h => by
    rw [Lib.compactUpTo_succ, List.mem_append]
    by_cases e : j = m
    · subst e
      by_cases hk : Lib.keeps d j = true
      · exact .inr (by rw [if_pos hk]; exact List.mem_singleton.2 rfl)
      · have : j ≠ 0 ∧ d[j]! = d[j - 1]! := by
          unfold Lib.keeps at hk
          rw [decide_eq_true_eq] at hk
          exact ⟨fun q => hk (.inl q), Decidable.byContradiction fun q => hk (.inr q)⟩
        rw [this.2]
        exact .inl (compact_upto d j (j - 1) (by omega))
    · exact .inl (compact_upto d m j (by omega))
theorem compact_mem (xs : List Int) (x : Int) : x ∈ Lib.compact xs ↔ x ∈ xs := by
  refine ⟨compact_sub xs x, fun h => ?_⟩
  obtain ⟨j, hj, rfl⟩ := List.getElem_of_mem h
  have := compact_upto xs.toArray xs.length j hj
  rw [getElem!_pos _ j (by simpa using hj)] at this
  simpa [Lib.compact] using this
theorem compact_own {e : TypeId} {w0 w : World} {base : Nat} {v : Value} {xs : List Int} (h : Own rInt e w0 w base v xs) (hl : xs.length ≤ 1000000) :
    Calls Try.prog 151 #[v] w fun r w' => ∃ v', r = .returned v' ∧ Own rInt e w0 w' base v' (Lib.compact xs) ∧ w.grownBy w' v.ownBlock ∧ v'.ownBlock = v.ownBlock := by
  obtain ⟨h1, h2⟩ := h.ints
  rcases h1.2 with ⟨rfl, hn⟩ | ⟨g, cap, cur, rfl, hg, hh, r1, r2, r3, r4⟩
  · obtain rfl := List.eq_nil_of_length_eq_zero hn
    refine (Try.slices_Compact_int_empty none 0 w).mono ?_
    rintro r w' ⟨rfl, rfl⟩
    exact ⟨_, rfl, Own.nil rInt e w0 w' base, ⟨rfl, rfl, rfl, Nat.le_refl _, fun _ _ _ => rfl⟩, rfl⟩
  · have hH := holds_of_blockI hh (by simpa using r4)
    refine (Try.slices_Compact_int g 0 cap xs w hH (by omega) r1).mono ?_
    rintro r w' ⟨rfl, q, rfl⟩
    have hcl := compact_len xs
    have hlen : (Lib.compact xs ++ List.replicate (xs.length - (Lib.compact xs).length) 0).length = xs.length := by simp; omega
    have h3 := ownsRow_sortedI (n := q) (os := #[]) (base := base) hlen hg hh r1 r2 r3
    rw [grow_empty] at h3
    have h4 := grownBy_sortedI (w := w) (g := g) (n := q) (os := #[]) (Lib.compact xs ++ List.replicate (xs.length - (Lib.compact xs).length) 0).toArray
    rw [grow_empty] at h4
    refine ⟨_, rfl, Own.ofInts ?_ (fun x hx => h2 x (compact_sub xs x hx)), h4, rfl⟩
    rcases h3.2 with ⟨h', _⟩ | ⟨g', cap', cur', h', hb', hg', _, _, hc', ht'⟩
    · simp at h'
    · simp only [Value.slice.injEq, Option.some.injEq, Addr.mk.injEq, and_true, true_and] at h'
      obtain ⟨rfl, rfl⟩ := h'
      refine ⟨by simp, .inr ⟨g, cap, cur', rfl, hb', hg', by omega, r2, hc', ?_⟩⟩
      have := congrArg (List.take (Lib.compact xs).length) ht'
      rw [List.take_take, List.map_append, Nat.mul_one, Nat.min_eq_left hcl] at this
      rw [Nat.mul_one, this, List.take_append_of_le_length (by simp), List.take_of_length_le (by simp)]
theorem Own.set {e : TypeId} {w0 w : World} {base g cap : Nat} {xs : List Int} (h : Own rInt e w0 w base (.slice (some ⟨g, 0, none⟩) xs.length cap) xs) (j : Nat) (y : Int) (hy : int64 y) :
    Own rInt e w0 (w.setCell ⟨g, j, none⟩ (.int .i64 y)) base (.slice (some ⟨g, 0, none⟩) xs.length cap) (xs.set j y) ∧ w.grownBy (w.setCell ⟨g, j, none⟩ (.int .i64 y)) (some g) := by
  obtain ⟨h1, h2⟩ := h.ints
  obtain ⟨h3, h4⟩ := h1.stored j (.int .i64 y)
  refine ⟨Own.ofInts (by rw [List.length_set, List.map_set]; exact h3) (fun x hx => ?_), h4⟩
  rcases List.mem_or_eq_of_mem_set hx with h5 | h5
  · exact h2 x h5
  · rw [h5]; exact hy
theorem Own.get {e : TypeId} {w0 w : World} {base g cap n : Nat} {xs : List Int} (h : Own rInt e w0 w base (.slice (some ⟨g, 0, none⟩) n cap) xs) (j : Nat) (hj : j < xs.length) : w.cell? ⟨g, j, none⟩ = some (.int .i64 xs[j]) ∧ w.frozen? ⟨g, j, none⟩ = false := by
  obtain ⟨h1, h2⟩ := h.ints
  obtain ⟨A, c, e1, e2⟩ := h.form
  obtain rfl : n = xs.length := by simpa using (Value.slice.inj e1).2.1
  exact ⟨(h1.cellAt j (by omega)).trans (by rw [List.getElem?_map, List.getElem?_eq_getElem hj]; rfl), h1.frozenAt j⟩
theorem wpList_append1n {α : Type} {P : Program} {ops : Array Oper} {rest : List Oper} {o : Oper} {a : Act} {Q : Exit → Act → World → Prop} {w0 W : World} (d : Rp α) (base : Nat) (hgd : o.guard = none) (s x : Operand) (t e : TypeId) (z : Value) (bytes : Nat)
    (ho : o.op = .call { callee := .builtin .append, args := #[s, x], argTypes := #[t, t] })
    (ht : P.underlying t = some (.slice e)) (hinfo : (P.info? e).map (fun i => (i.zero, i.size, i.bytes)) = some (some z, d.sz, bytes)) (hz : z.cells.size = d.sz) (hs0 : 0 < d.sz) (hb0 : 0 < bytes)
    (v : Value) (xs : List α) (y : α) (ys : List Value) (hs : a.eval s = v) (n : Nat) (hx : a.eval x = .slice (some ⟨n, 0, none⟩) 1 1) (hn : n = W.heap.size) (hy : d.K w0 y ys)
    (HO : Own d e w0 W base v xs) (hbase : base ≤ W.heap.size) (hl : (xs.length + 1) * bytes ≤ 140737488355328)
    (h : ∀ v1 w1, Own d e w0 w1 base v1 (xs ++ [y]) → W.grownBy w1 v.ownBlock → wpList P ops Q rest (a.put o.dst v1) w1) :
    wpList P ops Q (o :: rest) a (W.alloc (.cells ys.toArray e)) :=
  wpList_append1 d base hgd s x t e z bytes ho ht hinfo hz hs0 hb0 v xs y ys hs (by rw [hx, hn]) hy HO hbase hl h
theorem wp_of_step {o : Oper} {ops : Array Oper} {tmps : Array Value} {A E : Prop} (hgd : o.guard = none) (h : if Region.wanted o (yielded ops tmps) = true then A else E) : A := by rwa [if_pos (by simp [Region.wanted, hgd])] at h
theorem step_append1 {α : Type} {P : Program} {ops : Array Oper} {o : Oper} {a : Act} {K : Act → World → Prop} {Q : Exit → Act → World → Prop} {E : Prop} {w0 W : World} (d : Rp α) (base : Nat) (hgd : o.guard = none) (s x : Operand) (t e : TypeId) (z : Value) (bytes : Nat)
    (ho : o.op = .call { callee := .builtin .append, args := #[s, x], argTypes := #[t, t] })
    (ht : P.underlying t = some (.slice e)) (hinfo : (P.info? e).map (fun i => (i.zero, i.size, i.bytes)) = some (some z, d.sz, bytes)) (hz : z.cells.size = d.sz) (hs0 : 0 < d.sz) (hb0 : 0 < bytes)
    (v : Value) (xs : List α) (y : α) (ys : List Value) (hs : a.eval s = v) (n : Nat) (hx : a.eval x = .slice (some ⟨n, 0, none⟩) 1 1) (hn : n = W.heap.size) (hy : d.K w0 y ys)
    (HO : Own d e w0 W base v xs) (hbase : base ≤ W.heap.size) (hl : (xs.length + 1) * bytes ≤ 140737488355328)
    (h : ∀ v1 w1, Own d e w0 w1 base v1 (xs ++ [y]) → W.grownBy w1 v.ownBlock → K (a.put o.dst v1) w1) :
    if Region.wanted o (yielded ops a.tmps) = true then Oper.wp P o a (W.alloc (.cells ys.toArray e)) K Q else E := by
  have hw : Region.wanted o (yielded ops a.tmps) = true := by simp [Region.wanted, hgd]
  rw [if_pos hw]
  obtain ⟨i0, hi, hzz⟩ := Option.map_eq_some_iff.1 hinfo
  simp only [Prod.mk.injEq] at hzz
  obtain ⟨hz0, hz1, hz2⟩ := hzz
  have hlen : xs.length + 1 ≤ 140737488355328 := Nat.le_trans (Nat.le_mul_of_pos_right _ hb0) hl
  obtain ⟨cs, hown, hc⟩ := HO
  have hown' : (W.alloc (.cells ys.toArray e)).ownsRow base e d.sz v xs.length cs := hown.kept (World.grownBy_alloc W _ none) (by cases v.ownBlock <;> simp)
  refine wp_append_own (W.alloc (.cells ys.toArray e)) s x t ho base e i0 z d.sz bytes ht hi hz0 hz1 hz2 hz hs0 v xs.length cs hs hown' ⟨n, 0, none⟩ 1 1 ys hx (by rw [d.len hy, Nat.one_mul])
    (fun j u hj => by
      rw [add_none, Nat.zero_add, hn]
      exact blk_cell (blk_new W _) (by simpa using hj)) (d.one hy) (by simp only [maxLen]; omega) hl (by simp; omega) ?_
  intro v1 w1 hown1 hg _
  exact h v1 w1 ⟨_, by rw [List.length_append]; exact hown1, hc.snoc hy⟩ (World.grownBy.trans (World.grownBy_alloc W _ _) hg)
end Go.Proofs.Ytjblfgagafmhcaa.Fw
