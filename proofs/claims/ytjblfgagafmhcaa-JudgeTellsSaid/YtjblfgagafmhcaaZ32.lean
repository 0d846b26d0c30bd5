/- The law footway/footwaylaw20.JudgeTells answers true at every input (the given statement JudgeTellsSaid); this is the last part of its proof. Conditions: none. -/
import Derived.Test.YtjblfgagafmhcaaZ23
import Derived.Test.YtjblfgagafmhcaaZ25
import Derived.Test.YtjblfgagafmhcaaZ27
import Derived.Test.YtjblfgagafmhcaaZ31
import Derived.Test.YtjblfgagafmhcaaRows
import Derived.Test.YtjblfgagafmhcaaZ4
import Derived.ProofKit
import Derived.OpenShut
import Derived.ShutString
import Derived.ChangeOld
import Derived.SizedLaws
set_option linter.unusedVariables false
set_option linter.unusedSimpArgs false
namespace Go.Proofs.Ytjblfgagafmhcaa.Fw
open Go.RowKit
open Go.Proofs.YtjblfgagafmhcaaW.PrintWords (rd Ev Ev.step Ev.now Ev.bind Ev.congr Ev.rounds)
open Go.Proofs.YtjblfgagafmhcaaW.PrintWords (mn)
def refReach (l : Lan) (op : List (List Bool)) (seg : Int) : List Int := upTo (refSteps l op seg) 0 l.segs.toNat
theorem l1R_length (E : Nat → Nat → Bool) (n : Nat) : ∀ (d m : Nat) (o : List Int), (l1R E n d m o).length = o.length
  | 0, _, o => rfl
  | d + 1, m, o => by
    have h3 : ∀ (m : Int) (s d t : Nat) (o : List Int), (l3R E m s d t o).length = o.length := fun m s d => by
      induction d with
      | zero => intro t o; rfl
      | succ d ih => intro t o; rw [l3R, ih]; split <;> simp
    have h2 : ∀ (m : Int) (d s : Nat) (o : List Int), (l2R E m n d s o).length = o.length := fun m d => by
      induction d with
      | zero => intro s o; rfl
      | succ d ih => intro s o; rw [l2R, ih, h3]
    rw [l1R, l1R_length, h2]
theorem refSteps_length (l : Lan) (op : List (List Bool)) (seg : Int) : (refSteps l op seg).length = l.segs.toNat := by
  unfold refSteps; rw [l1R_length]; simp
theorem refReach_l0 (out : List Int) (hl : out.length ≤ 8) : ∀ (d s : Nat) (acc : List Int), s + d = out.length → acc.length ≤ s → Ev (fun k => K.footwayref17_Reach.l0 k acc out (out.length : Int) (s : Int)) (acc ++ upTo out s d)
  | 0, s, acc, h, _ => by
    refine Ev.step (f := fun _ => some (acc ++ upTo out s 0)) (fun k => ?_) (Ev.now _)
    simp only [K.footwayref17_Reach.l0]
    rw [if_neg (by omega), upTo, List.append_nil]
  | d + 1, s, acc, h, ha => by
    have hrd : rd out (s : Int) = out.getD s 0 := rfl
    rw [upTo]
    by_cases h0 : 0 ≤ out.getD s 0
    · rw [if_pos h0]
      have ih := refReach_l0 out hl d (s + 1) (acc ++ [(s : Int)]) (by omega) (by simp; omega)
      rw [List.append_assoc, List.singleton_append] at ih
      refine Ev.step (fun k => ?_) ih
      simp only [K.footwayref17_Reach.l0]
      rw [if_pos (by omega), if_pos (by omega), if_pos (by omega), hrd, if_pos h0, if_pos (by omega), wrap_succ (by omega)]
    · rw [if_neg h0]
      refine Ev.step (fun k => ?_) (refReach_l0 out hl d (s + 1) acc (by omega) (by omega))
      simp only [K.footwayref17_Reach.l0]
      rw [if_pos (by omega), if_pos (by omega), if_pos (by omega), hrd, if_neg h0, wrap_succ (by omega)]
theorem refReach_ev (a0 : Int) (l1 : List Plan) (l2 : List Host) (op : List (List Bool)) (seg : Int) (ok : ∀ x ∈ l1, okPlan x) (hm : mayOk ⟨a0, l1, l2⟩ op = true) (h0 : 0 ≤ seg) (hs : seg < a0) : Ev (fun k => K.footwayref17_Reach.f k a0 l1 l2 op seg) (refReach ⟨a0, l1, l2⟩ op seg) := by
  have g2 : a0 ≤ 8 := (mayOk_of hm).segs8
  have hlen : (refSteps ⟨a0, l1, l2⟩ op seg).length = a0.toNat := refSteps_length _ _ _
  have := refReach_l0 (refSteps ⟨a0, l1, l2⟩ op seg) (by omega) (refSteps ⟨a0, l1, l2⟩ op seg).length 0 [] (by omega) (by simp)
  rw [List.nil_append, hlen] at this
  refine Ev.congr (fun k => ?_) this
  unfold K.footwayref17_Reach.f K.footwayref17_Steps.f
  rw [if_pos ⟨ok, hm, h0, hs⟩, Option.bind_some, hlen]
  rfl
theorem reach_same {l : Lan} {op : List (List Bool)} (hm : mayOk l op = true) {seg : Int} (h0 : 0 ≤ seg) (hs : seg < l.segs) (x : Int) : x ∈ refReach l op seg ↔ x ∈ reachL l op seg := by
  have h := mayOk_of hm
  have g1 := h.segs1
  obtain ⟨s, rfl⟩ := Int.eq_ofNat_of_zero_le h0
  have hN : mayN l op [(s : Int)] = 0 := by
    have hs2 : segOut l.segs (s : Int) = false := by simp [segOut]; omega
    unfold mayN
    rw [if_pos hm]
    simp [hs2]
  unfold refReach reachL
  rw [if_pos hN, upTo_mem, upTo_mem]
  constructor
  · rintro ⟨j, e, h1, h2, h3⟩
    exact ⟨j, e, h1, h2, (stepsL_iff hm hs (by omega)).2 ((refSteps_iff hm hs (by omega)).1 h3)⟩
  · rintro ⟨j, e, h1, h2, h3⟩
    exact ⟨j, e, h1, h2, (refSteps_iff hm hs (by omega)).2 ((stepsL_iff hm hs (by omega)).1 h3)⟩
theorem any_mem {l l' : List Int} (h : ∀ x, x ∈ l ↔ x ∈ l') (y : Int) : (l.any fun x => decide (x = y)) = l'.any fun x => decide (x = y) := by
  rw [Bool.eq_iff_iff]
  simp only [List.any_eq_true, decide_eq_true_eq]
  constructor
  · rintro ⟨x, h1, h2⟩; exact ⟨x, (h x).1 h1, h2⟩
  · rintro ⟨x, h1, h2⟩; exact ⟨x, (h x).2 h1, h2⟩
theorem firstSeg_mem {l : List Copy} {c : Copy} (h : c ∈ l) : ∃ c' ∈ l, firstSeg l c.raw = c'.seg := by
  unfold firstSeg
  cases hf : l.find? fun x => decide (x.raw = c.raw) with
  | none =>
    have := List.find?_eq_none.1 hf c h
    simp at this
  | some y => exact ⟨y, List.mem_of_find?_eq_some hf, rfl⟩
theorem upTo_length (out : List Int) : ∀ (d s : Nat), (upTo out s d).length ≤ d
  | 0, s => by simp [upTo]
  | d + 1, s => by
    have := upTo_length out d (s + 1)
    rw [upTo]
    split <;> simp <;> omega
theorem refStray_l0 (a0 : Int) (l1 : List Plan) (l2 : List Host) (op : List (List Bool)) (l : List Copy) (ok : ∀ x ∈ l1, okPlan x) (okc : ∀ x ∈ l, okCopy x) (hm : mayOk ⟨a0, l1, l2⟩ op = true) (hin : ∀ c ∈ l, 0 ≤ c.seg ∧ c.seg < a0) (hl : l.length ≤ 1000000) :
    ∀ (d s : Nat), s + d = l.length → Ev (fun k => K.footwayref20_Stray.l0 k op l l (l.length : Int) (s : Int) a0 l1 l2) (strayFrom (reachL ⟨a0, l1, l2⟩ op) l (l.drop s) s)
  | 0, s, h => by
    refine Ev.step (f := fun _ => some (-1)) (fun k => ?_) (by rw [List.drop_of_length_le (by omega), strayFrom]; exact Ev.now _)
    simp only [K.footwayref20_Stray.l0]
    rw [if_neg (by omega)]
  | d + 1, s, h => by
    have g2 : a0 ≤ 8 := (mayOk_of hm).segs8
    obtain ⟨x, hx⟩ := get_lt (l := l) (s := s) (by omega)
    have hxm := List.mem_of_getElem? hx
    obtain ⟨c', hc', ec⟩ := firstSeg_mem hxm
    have hc := hin c' hc'
    rw [drop_of_get hx, strayFrom]
    have ih := refStray_l0 a0 l1 l2 op l ok okc hm hin hl d (s + 1) (by omega)
    have hsame := any_mem (reach_same (l := ⟨a0, l1, l2⟩) hm (seg := firstSeg l x.raw) (by rw [ec]; exact hc.1) (by rw [ec]; exact hc.2)) x.seg
    have e1 := refReach_ev a0 l1 l2 op (firstSeg l x.raw) ok hm (by rw [ec]; exact hc.1) (by rw [ec]; exact hc.2)
    have e2 := has_ev (refReach ⟨a0, l1, l2⟩ op (firstSeg l x.raw)) x.seg (by unfold refReach; have := upTo_length (refSteps ⟨a0, l1, l2⟩ op (firstSeg l x.raw)) a0.toNat 0; exact Nat.le_trans this (by omega))
    rw [hsame] at e2
    refine Ev.step (f := fun k => (K.footwayref17_Reach.f k a0 l1 l2 op (firstSeg l x.raw)).bind fun t => (K.footwayref06_Has.f k t x.seg).bind fun b => if b = true then K.footwayref20_Stray.l0 k op l l (l.length : Int) ((s + 1 : Nat) : Int) a0 l1 l2 else some (s : Int)) (fun k => ?_) (Ev.bind e1 (Ev.bind e2 ?_))
    · simp only [K.footwayref20_Stray.l0]
      rw [if_pos (by omega), if_pos (by omega), if_pos (by omega), rdC_get hx, wrap_succ (by omega)]
      unfold K.footwayref20_first.f
      rw [if_pos okc, Option.bind_some]
    · cases (reachL ⟨a0, l1, l2⟩ op (firstSeg l x.raw)).any fun y => decide (y = x.seg)
      · exact Ev.now _
      · exact ih
theorem refStray_ev (a0 : Int) (l1 : List Plan) (l2 : List Host) (op : List (List Bool)) (l : List Copy) (ok : ∀ x ∈ l1, okPlan x) (okc : ∀ x ∈ l, okCopy x) (hm : mayOk ⟨a0, l1, l2⟩ op = true) (hin : ∀ c ∈ l, 0 ≤ c.seg ∧ c.seg < a0) (hl : l.length ≤ 1000000) :
    Ev (fun k => K.footwayref20_Stray.f k a0 l1 l2 op l) (strayFrom (reachL ⟨a0, l1, l2⟩ op) l l 0) := by
  have := refStray_l0 a0 l1 l2 op l ok okc hm hin hl l.length 0 (by omega)
  rw [List.drop_zero] at this
  exact this
theorem mayRef_l0 (op : List (List Bool)) (ps : List Plan) (he : op.length = ps.length) (hl : ps.length ≤ 1000000) : ∀ (d s : Nat), s + d = ps.length → Ev (fun k => K.footwayref17_May.l0 k op ps (ps.length : Int) (s : Int)) (lensOk (ps.drop s) (op.drop s))
  | 0, s, h => by
    refine Ev.step (f := fun _ => some true) (fun k => ?_) (by rw [List.drop_of_length_le (by omega)]; simp only [lensOk]; exact Ev.now _)
    simp only [K.footwayref17_May.l0]
    rw [if_neg (by omega)]
  | d + 1, s, h => by
    obtain ⟨x, hx⟩ := get_lt (l := ps) (s := s) (by omega)
    obtain ⟨y, hy⟩ := get_lt (l := op) (s := s) (by omega)
    rw [drop_of_get hx, drop_of_get hy, lensOk]
    have e1 : op.getD ((s : Int)).toNat [] = y := rdB_get hy
    by_cases e : y.length = x.ports.length
    · rw [decide_eq_true e, Bool.true_and]
      refine Ev.step (fun k => ?_) (mayRef_l0 op ps he hl d (s + 1) (by omega))
      simp only [K.footwayref17_May.l0]
      rw [if_pos (by omega), if_pos (by omega), if_pos (by omega), if_pos (by omega), rdP_get hx, wrap_succ (by omega)]
      show (if ((op.getD ((s : Int)).toNat []).length : Int) = (x.ports.length : Int) then _ else _) = _
      rw [e1, if_pos (by omega)]
    · rw [decide_eq_false e, Bool.false_and]
      refine Ev.step (f := fun _ => some false) (fun k => ?_) (Ev.now _)
      simp only [K.footwayref17_May.l0]
      rw [if_pos (by omega), if_pos (by omega), if_pos (by omega), if_pos (by omega), rdP_get hx]
      show (if ((op.getD ((s : Int)).toNat []).length : Int) = (x.ports.length : Int) then _ else _) = _
      rw [e1, if_neg (by omega)]
theorem mayRef_ev (a0 : Int) (l1 : List Plan) (l2 : List Host) (op : List (List Bool)) (ok : ∀ x ∈ l2, okHost x) (hl2 : l2.length ≤ 1000000) (hl : l1.length ≤ 1000000) (hp : ∀ p ∈ l1, p.ports.length ≤ 1000000) : Ev (fun k => K.footwayref17_May.f k a0 l1 l2 op) (mayOk ⟨a0, l1, l2⟩ op) := by
  have hR := right_ev a0 l1 l2 ok hl2 hl hp
  have bad : Ev (fun k => K.footwayref17_May.j0 k op true a0 l1 l2) false := by
    refine Ev.step (f := fun _ => some false) (fun k => ?_) (Ev.now _)
    simp only [K.footwayref17_May.j0]
    rw [if_pos trivial]
  refine Ev.congr (f := fun k => (K.footwayref15_Right.f k a0 l1 l2).bind fun t => if t = true then K.footwayref17_May.j0 k op ((op.length : Int) != (l1.length : Int)) a0 l1 l2 else K.footwayref17_May.j0 k op true a0 l1 l2) (fun k => rfl) (Ev.bind hR ?_)
  unfold mayOk
  cases lanRight ⟨a0, l1, l2⟩
  · exact bad
  · rw [Bool.true_and]
    by_cases he : op.length = l1.length
    · rw [show decide (op.length = (⟨a0, l1, l2⟩ : Lan).plans.length) = true from decide_eq_true he, Bool.true_and, show ((op.length : Int) != (l1.length : Int)) = false from by simp [he]]
      have := mayRef_l0 op l1 he hl l1.length 0 (by omega)
      rw [List.drop_zero, List.drop_zero] at this
      refine Ev.step (fun k => ?_) this
      rw [if_pos rfl]
      simp only [K.footwayref17_May.j0]
      rw [if_neg (by decide)]
      rfl
    · rw [show decide (op.length = (⟨a0, l1, l2⟩ : Lan).plans.length) = false from decide_eq_false he, Bool.false_and, show ((op.length : Int) != (l1.length : Int)) = true from by simp; omega]
      exact bad
theorem mn_nat (n m : Nat) : mn (n : Int) (m : Int) = ((min n m : Nat) : Int) := by unfold mn; split <;> omega
def cutP (p : Plan) : Plan := ⟨p.id, p.ports.take 10⟩
theorem take_min {α : Type} (l : List α) (m : Nat) : l.take (min l.length m) = l.take m := by
  rcases Nat.le_total l.length m with h | h
  · rw [Nat.min_eq_left h, List.take_of_length_le (Nat.le_refl _), List.take_of_length_le h]
  · rw [Nat.min_eq_right h]
theorem cut_l0 (a0 : Int) (l1 : List Plan) (l2 : List Host) (ps : List Plan) (hl : ps.length ≤ 8) : ∀ (d s : Nat), s + d = ps.length → Ev (fun k => K.footwaylaw20_cut.l0 k ((ps.take s).map cutP) ps (ps.length : Int) (s : Int) a0 l1 l2) (a0, ps.map cutP, l2.take 12)
  | 0, s, h => by
    refine Ev.step (f := fun _ => some (a0, ps.map cutP, l2.take 12)) (fun k => ?_) (Ev.now _)
    simp only [K.footwaylaw20_cut.l0]
    have e := mn_nat l2.length 12
    rw [show ((12 : Nat) : Int) = 12 from rfl] at e
    rw [if_neg (by omega), e, if_pos (by omega), if_pos (by omega), Int.toNat_natCast, take_min, List.take_of_length_le (by omega)]
  | d + 1, s, h => by
    obtain ⟨x, hx⟩ := get_lt (l := ps) (s := s) (by omega)
    have ih := cut_l0 a0 l1 l2 ps hl d (s + 1) (by omega)
    rw [take_snoc hx, List.map_append, List.map_singleton] at ih
    refine Ev.step (fun k => ?_) ih
    simp only [K.footwaylaw20_cut.l0]
    have e := mn_nat x.ports.length 10
    rw [show ((10 : Nat) : Int) = 10 from rfl] at e
    rw [if_pos (by omega), if_pos (by omega), if_pos (by omega), rdP_get hx]
    show (if 0 ≤ mn (x.ports.length : Int) 10 then if mn (x.ports.length : Int) 10 ≤ (x.ports.length : Int) then if ((ps.take s).map cutP).length < 4398046511104 then K.footwaylaw20_cut.l0 k ((ps.take s).map cutP ++ [⟨x.id, x.ports.take (mn (x.ports.length : Int) 10).toNat⟩]) ps _ _ _ _ _ else none else none else none) = _
    rw [e, if_pos (by omega), if_pos (by omega), if_pos (by simp; omega), Int.toNat_natCast, take_min, wrap_succ (by omega)]
    rfl
theorem cut_ev (a0 : Int) (l1 : List Plan) (l2 : List Host) : Ev (fun k => K.footwaylaw20_cut.f k a0 l1 l2) (a0, (l1.take 8).map cutP, l2.take 12) := by
  have e := mn_nat l1.length 8
  rw [show ((8 : Nat) : Int) = 8 from rfl] at e
  have := cut_l0 a0 l1 l2 (l1.take 8) (by rw [List.length_take]; omega) (l1.take 8).length 0 (by omega)
  rw [List.take_zero, List.map_nil] at this
  refine Ev.congr (fun k => ?_) this
  unfold K.footwaylaw20_cut.f
  rw [e, if_pos (by omega), if_pos (by omega), Int.toNat_natCast, take_min, Option.bind_some]
  rfl
theorem rows_l0 (os : List (List Bool)) (hl : os.length ≤ 8) : ∀ (d s : Nat), s + d = os.length → Ev (fun k => K.footwaylaw20_rows.l0 k ((os.take s).map (List.take 10)) os (os.length : Int) (s : Int)) (os.map (List.take 10))
  | 0, s, h => by
    refine Ev.step (f := fun _ => some (os.map (List.take 10))) (fun k => ?_) (Ev.now _)
    simp only [K.footwaylaw20_rows.l0]
    rw [if_neg (by omega), List.take_of_length_le (by omega)]
  | d + 1, s, h => by
    obtain ⟨x, hx⟩ := get_lt (l := os) (s := s) (by omega)
    have ih := rows_l0 os hl d (s + 1) (by omega)
    rw [take_snoc hx, List.map_append, List.map_singleton] at ih
    refine Ev.step (fun k => ?_) ih
    simp only [K.footwaylaw20_rows.l0]
    have e := mn_nat x.length 10
    rw [show ((10 : Nat) : Int) = 10 from rfl] at e
    have e1 : os.getD ((s : Int)).toNat [] = x := rdB_get hx
    rw [if_pos (by omega), if_pos (by omega), if_pos (by omega)]
    show (if 0 ≤ mn ((os.getD ((s : Int)).toNat []).length : Int) 10 then if mn ((os.getD ((s : Int)).toNat []).length : Int) 10 ≤ ((os.getD ((s : Int)).toNat []).length : Int) then if ((os.take s).map (List.take 10)).length < 5864062014805 then K.footwaylaw20_rows.l0 k ((os.take s).map (List.take 10) ++ [(os.getD ((s : Int)).toNat []).take (mn ((os.getD ((s : Int)).toNat []).length : Int) 10).toNat]) os _ _ else none else none else none) = _
    rw [e1, e, if_pos (by omega), if_pos (by omega), if_pos (by simp; omega), Int.toNat_natCast, take_min, wrap_succ (by omega)]
theorem rows_ev (os : List (List Bool)) : Ev (fun k => K.footwaylaw20_rows.f k os) ((os.take 8).map (List.take 10)) := by
  have e := mn_nat os.length 8
  rw [show ((8 : Nat) : Int) = 8 from rfl] at e
  have := rows_l0 (os.take 8) (by rw [List.length_take]; omega) (os.take 8).length 0 (by omega)
  rw [List.take_zero, List.map_nil] at this
  refine Ev.congr (fun k => ?_) this
  unfold K.footwaylaw20_rows.f
  rw [e, if_pos (by omega), if_pos (by omega), Int.toNat_natCast, take_min, Option.bind_some]
  rfl
end Go.Proofs.Ytjblfgagafmhcaa.Fw
namespace Go.Proofs.Ytjblfgagafmhcaa.Fw
open Go.RowKit
open Go.Proofs.YtjblfgagafmhcaaW.PrintWords (rd Ev Ev.step Ev.now Ev.bind Ev.congr Ev.rounds)
open Go.Proofs.YtjblfgagafmhcaaW.PrintWords (mn)
theorem Ev.if_ {α : Type} {c : Prop} [Decidable c] {g f : Nat → Option α} {r : α} (h1 : c → Ev g r) (h2 : ¬ c → Ev f r) : Ev (fun k => if c then g k else f k) r := by
  by_cases h : c
  · exact Ev.congr (fun k => if_pos h) (h1 h)
  · exact Ev.congr (fun k => if_neg h) (h2 h)
def hearsE (l : Lan) (host : Int) : Int := if lanRight l = true then (if host < 0 ∨ (l.hosts.length : Int) ≤ host then 3 else 0) else 1
def hearsL (l : Lan) (cs : List Copy) (host : Int) : List Int := if hearsE l host = 0 then (match l.hosts[host.toNat]? with | some h => hearsUp h cs 0 | none => []) else []
theorem hears_ev (a0 : Int) (l1 : List Plan) (l2 : List Host) (cs : List Copy) (host : Int) (o1 : ∀ x ∈ l1, okPlan x) (o2 : ∀ x ∈ l2, okHost x) (o3 : int64 a0) (oc : ∀ x ∈ cs, okCopy x) (hl : cs.length ≤ 1000000) :
    Ev (fun k => K.judge_Hears.f k a0 l1 l2 cs host) (hearsL ⟨a0, l1, l2⟩ cs host, hearsE ⟨a0, l1, l2⟩ host) := by
  refine Ev.congr (f := fun k => if lanRight ⟨a0, l1, l2⟩ = true then (if host < 0 then some ([], 3) else (if host ≥ (l2.length : Int) then some ([], 3) else (if 0 ≤ host then (if host < (l2.length : Int) then K.judge_Hears.l0 k [] cs (cs.length : Int) 0 (K.rd_T91 l2 host).f0 (K.rd_T91 l2 host).f1 else none) else none))) else some ([], 1)) (fun k => ?_) ?_
  · unfold K.judge_Hears.f K.lan_Right.f
    rw [if_pos ⟨o1, o2, o3⟩, Option.bind_some]
  · refine Ev.if_ (fun hr => ?_) (fun hr => ?_)
    · by_cases hb : host < 0 ∨ (l2.length : Int) ≤ host
      · have e1 : hearsE ⟨a0, l1, l2⟩ host = 3 := by unfold hearsE; rw [if_pos hr, if_pos hb]
        have e2 : hearsL ⟨a0, l1, l2⟩ cs host = [] := by unfold hearsL; rw [e1, if_neg (by decide)]
        rw [e1, e2]
        refine Ev.if_ (fun h1 => Ev.now _) (fun h1 => Ev.if_ (fun h2 => Ev.now _) (fun h2 => ?_))
        exact absurd (hb.elim (fun q => absurd q h1) fun q => q) h2
      · have e1 : hearsE ⟨a0, l1, l2⟩ host = 0 := by unfold hearsE; rw [if_pos hr, if_neg hb]
        obtain ⟨n, rfl⟩ := Int.eq_ofNat_of_zero_le (show 0 ≤ host by omega)
        obtain ⟨h, hh⟩ := get_lt (l := l2) (s := n) (by omega)
        have e : (⟨a0, l1, l2⟩ : Lan).hosts[((n : Nat) : Int).toNat]? = some h := hh
        have e2 : hearsL ⟨a0, l1, l2⟩ cs n = hearsUp h cs 0 := by unfold hearsL; rw [e1, if_pos rfl, e]
        rw [e1, e2]
        have := hears_l0 h cs hl (fun x hx => (oc x hx).2.2.2.2) cs.length 0 [] (by omega) (by simp)
        rw [List.drop_zero, List.nil_append] at this
        refine Ev.congr (fun k => ?_) this
        rw [if_neg (by omega), if_neg (by omega), if_pos (by omega), if_pos (by omega), rdH_get hh]
        rfl
    · have e1 : hearsE ⟨a0, l1, l2⟩ host = 1 := by unfold hearsE; rw [if_neg hr]
      have e2 : hearsL ⟨a0, l1, l2⟩ cs host = [] := by unfold hearsL; rw [e1, if_neg (by decide)]
      rw [e1, e2]
      exact Ev.now _
theorem refHears_ev (a0 : Int) (l1 : List Plan) (l2 : List Host) (cs : List Copy) (n : Nat) (h : Host) (hh : l2[n]? = some h) (oc : ∀ x ∈ cs, okCopy x) (hl : cs.length ≤ 1000000) : Ev (fun k => K.footwayref20_Hears.f k a0 l1 l2 cs (n : Int)) (hearsUp h cs 0) := by
  have := refHears_l0 a0 l1 l2 n h hh cs hl (fun x hx => (oc x hx).2.2.2.2) cs.length 0 [] (by omega) (by simp)
  rw [List.drop_zero, List.nil_append] at this
  exact this
section
set_option linter.unusedSectionVars false
variable (a0 : Int) (l1 : List Plan) (l2 : List Host) (op : List (List Bool)) (cs : List Copy) (raw : ByteArray) (segs host : Int)
variable (o1 : ∀ x ∈ l1, okPlan x) (o2 : ∀ x ∈ l2, okHost x) (o3 : int64 a0) (oc : ∀ x ∈ cs, okCopy x) (hl : cs.length ≤ 1000000) (hl1 : l1.length ≤ 1000000) (hl2 : l2.length ≤ 1000000) (hp : ∀ p ∈ l1, p.ports.length ≤ 1000000) (hraw : raw.size ≤ 9223372036854775807)
include o1 o2 o3 oc hl hl1 hl2 hp hraw
theorem j5_ev (hr : lanRight ⟨a0, l1, l2⟩ = true) : Ev (fun k => K.footwaylaw20_JudgeTells.j5 k cs host (hearsL ⟨a0, l1, l2⟩ cs host) (hearsE ⟨a0, l1, l2⟩ host) (decide (host < 0 ∨ (l2.length : Int) ≤ host)) a0 l1 l2) true := by
  by_cases hb : host < 0 ∨ (l2.length : Int) ≤ host
  · have e1 : hearsE ⟨a0, l1, l2⟩ host = 3 := by unfold hearsE; rw [if_pos hr, if_pos hb]
    have e2 : hearsL ⟨a0, l1, l2⟩ cs host = [] := by unfold hearsL; rw [e1, if_neg (by decide)]
    rw [e1, e2, decide_eq_true hb]
    refine Ev.step (f := fun _ => some true) (fun k => ?_) (Ev.now _)
    simp only [K.footwaylaw20_JudgeTells.j5]
    rw [if_pos trivial, if_pos trivial]; rfl
  · have e1 : hearsE ⟨a0, l1, l2⟩ host = 0 := by unfold hearsE; rw [if_pos hr, if_neg hb]
    obtain ⟨n, rfl⟩ := Int.eq_ofNat_of_zero_le (show 0 ≤ host by omega)
    obtain ⟨h, hh⟩ := get_lt (l := l2) (s := n) (by omega)
    have e : (⟨a0, l1, l2⟩ : Lan).hosts[((n : Nat) : Int).toNat]? = some h := hh
    have e2 : hearsL ⟨a0, l1, l2⟩ cs n = hearsUp h cs 0 := by unfold hearsL; rw [e1, if_pos rfl, e]
    rw [e1, e2, decide_eq_false hb]
    refine Ev.step (f := fun k => (K.footwayref20_Hears.f k a0 l1 l2 cs (n : Int)).bind fun t => (K.footwayref06_Same.f k (hearsUp h cs 0) t).bind fun b => some b) (fun k => ?_) (Ev.bind (refHears_ev a0 l1 l2 cs n h hh oc hl) (Ev.bind (same_self _ (Nat.le_trans (hearsUp_length _ _ _) hl)) (Ev.now _)))
    simp only [K.footwaylaw20_JudgeTells.j5]
    rw [if_neg (by decide), if_pos trivial]
theorem j4_ev : Ev (fun k => K.footwaylaw20_JudgeTells.j4 k cs host (hearsL ⟨a0, l1, l2⟩ cs host) (hearsE ⟨a0, l1, l2⟩ host) a0 l1 l2) true := by
  have hR := right_ev a0 l1 l2 o2 hl2 hl1 hp
  refine Ev.step (fun k => ?_) (Ev.bind hR (f := fun k t => if t = true then (if host < 0 then K.footwaylaw20_JudgeTells.j5 k cs host (hearsL ⟨a0, l1, l2⟩ cs host) (hearsE ⟨a0, l1, l2⟩ host) true a0 l1 l2 else K.footwaylaw20_JudgeTells.j5 k cs host (hearsL ⟨a0, l1, l2⟩ cs host) (hearsE ⟨a0, l1, l2⟩ host) (decide (host ≥ (l2.length : Int))) a0 l1 l2) else (if hearsE ⟨a0, l1, l2⟩ host = 1 then some (((hearsL ⟨a0, l1, l2⟩ cs host).length : Int) == 0) else some false)) ?_)
  · simp only [K.footwaylaw20_JudgeTells.j4]
  · cases hr : lanRight ⟨a0, l1, l2⟩
    · have e1 : hearsE ⟨a0, l1, l2⟩ host = 1 := by unfold hearsE; rw [if_neg (by rw [hr]; decide)]
      have e2 : hearsL ⟨a0, l1, l2⟩ cs host = [] := by unfold hearsL; rw [e1, if_neg (by decide)]
      rw [e1, e2]
      exact Ev.now _
    · have h5 := j5_ev a0 l1 l2 cs raw host o1 o2 o3 oc hl hl1 hl2 hp hraw hr
      refine Ev.congr (f := fun k => if host < 0 then _ else _) (fun k => if_pos rfl) (Ev.if_ (fun h1 => ?_) (fun h1 => ?_))
      · rw [decide_eq_true (.inl h1)] at h5
        exact h5
      · by_cases h2 : (l2.length : Int) ≤ host
        · rw [decide_eq_true (.inr h2)] at h5
          rw [decide_eq_true (show host ≥ (l2.length : Int) from h2)]
          exact h5
        · rw [decide_eq_false (fun q => q.elim h1 h2)] at h5
          rw [decide_eq_false (show ¬ host ≥ (l2.length : Int) from h2)]
          exact h5
theorem segs_odd : cs.all (segOk a0) = !oddAny a0 cs := by
  unfold oddAny
  rw [@not_any_odd a0 cs, Bool.not_not]
  rfl
theorem strayE_eq : strayE ⟨a0, l1, l2⟩ op cs = if mayOk ⟨a0, l1, l2⟩ op = true ∧ cs.all (segOk a0) = true then 0 else 1 := by
  rw [segs_odd a0 l1 l2 cs raw o1 o2 o3 oc hl hl1 hl2 hp hraw]
  unfold strayE
  by_cases hm : mayOk ⟨a0, l1, l2⟩ op = true
  · have g1 : 1 ≤ a0 := (mayOk_of hm).segs1
    have hN : mayN ⟨a0, l1, l2⟩ op [0] = 0 := by
      have hs2 : segOut a0 0 = false := by simp [segOut]; omega
      unfold mayN
      rw [if_pos hm]
      simp [hs2]
    rw [hN]
    simp [hm]
  · have hN : ¬ mayN ⟨a0, l1, l2⟩ op [0] = 0 := fun h => hm (mayN_zero h).1
    rw [if_neg (fun h => hN h.1), if_neg (fun h => hm h.1)]
theorem j3_ev : Ev (fun k => K.footwaylaw20_JudgeTells.j3 k op cs host (strayV ⟨a0, l1, l2⟩ op cs) (strayE ⟨a0, l1, l2⟩ op cs) (hearsL ⟨a0, l1, l2⟩ cs host) (hearsE ⟨a0, l1, l2⟩ host) (decide (¬ (mayOk ⟨a0, l1, l2⟩ op = true ∧ cs.all (segOk a0) = true))) a0 l1 l2) true := by
  have hE := strayE_eq a0 l1 l2 op cs raw o1 o2 o3 oc hl hl1 hl2 hp hraw
  have h4 := j4_ev a0 l1 l2 cs raw host o1 o2 o3 oc hl hl1 hl2 hp hraw
  by_cases hb : mayOk ⟨a0, l1, l2⟩ op = true ∧ cs.all (segOk a0) = true
  · rw [if_pos hb] at hE
    have hV : strayV ⟨a0, l1, l2⟩ op cs = strayFrom (reachL ⟨a0, l1, l2⟩ op) cs cs 0 := by unfold strayV; rw [if_pos hE]
    rw [hE, hV, decide_eq_false (fun q => q hb)]
    have hin : ∀ c ∈ cs, 0 ≤ c.seg ∧ c.seg < a0 := fun c hc => by
      have := List.all_eq_true.1 hb.2 c hc
      simp [segOk, lanIn] at this
      omega
    refine Ev.step (f := fun k => (K.footwayref20_Stray.f k a0 l1 l2 op cs).bind fun t => if strayFrom (reachL ⟨a0, l1, l2⟩ op) cs cs 0 = t then K.footwaylaw20_JudgeTells.j4 k cs host (hearsL ⟨a0, l1, l2⟩ cs host) (hearsE ⟨a0, l1, l2⟩ host) a0 l1 l2 else some false) (fun k => ?_) (Ev.bind (refStray_ev a0 l1 l2 op cs o1 oc hb.1 hin hl) ?_)
    · simp only [K.footwaylaw20_JudgeTells.j3]
      rw [if_neg (by decide), if_pos trivial]
    · exact Ev.congr (fun k => if_pos rfl) h4
  · rw [if_neg hb] at hE
    have hV : strayV ⟨a0, l1, l2⟩ op cs = 0 := by unfold strayV; rw [hE]; rfl
    rw [hE, hV, decide_eq_true hb]
    refine Ev.step (fun k => ?_) h4
    simp only [K.footwaylaw20_JudgeTells.j3]
    rw [if_pos trivial, if_pos trivial, if_pos trivial]
theorem j2_ev : Ev (fun k => K.footwaylaw20_JudgeTells.j2 k op cs host (strayV ⟨a0, l1, l2⟩ op cs) (strayE ⟨a0, l1, l2⟩ op cs) (hearsL ⟨a0, l1, l2⟩ cs host) (hearsE ⟨a0, l1, l2⟩ host) a0 l1 l2) true := by
  have h3 := j3_ev a0 l1 l2 op cs raw host o1 o2 o3 oc hl hl1 hl2 hp hraw
  have hM := mayRef_ev a0 l1 l2 op o2 hl2 hl1 hp
  refine Ev.step (f := fun k => (K.footwayref17_May.f k a0 l1 l2 op).bind fun t => if t = true then K.footwaylaw20_JudgeTells.j3 k op cs host (strayV ⟨a0, l1, l2⟩ op cs) (strayE ⟨a0, l1, l2⟩ op cs) (hearsL ⟨a0, l1, l2⟩ cs host) (hearsE ⟨a0, l1, l2⟩ host) (!(cs.all (segOk a0))) a0 l1 l2 else K.footwaylaw20_JudgeTells.j3 k op cs host (strayV ⟨a0, l1, l2⟩ op cs) (strayE ⟨a0, l1, l2⟩ op cs) (hearsL ⟨a0, l1, l2⟩ cs host) (hearsE ⟨a0, l1, l2⟩ host) true a0 l1 l2) (fun k => ?_) (Ev.bind hM ?_)
  · simp only [K.footwaylaw20_JudgeTells.j2]
    unfold K.footwayref20_Segs.f
    rw [if_pos oc]
    rfl
  · cases hm : mayOk ⟨a0, l1, l2⟩ op
    · rw [decide_eq_true (show ¬ (mayOk ⟨a0, l1, l2⟩ op = true ∧ cs.all (segOk a0) = true) from fun q => by rw [hm] at q; exact absurd q.1 (by decide))] at h3
      exact h3
    · cases hs : cs.all (segOk a0)
      · rw [decide_eq_true (show ¬ (mayOk ⟨a0, l1, l2⟩ op = true ∧ cs.all (segOk a0) = true) from fun q => by rw [hs] at q; exact absurd q.2 (by decide))] at h3
        exact h3
      · rw [decide_eq_false (show ¬ ¬ (mayOk ⟨a0, l1, l2⟩ op = true ∧ cs.all (segOk a0) = true) from fun q => q ⟨hm, hs⟩)] at h3
        exact h3
theorem j1_ev : Ev (fun k => K.footwaylaw20_JudgeTells.j1 k op cs raw segs host (if whereE cs segs = 0 then whereL cs raw segs.toNat else []) (whereE cs segs) (strayV ⟨a0, l1, l2⟩ op cs) (strayE ⟨a0, l1, l2⟩ op cs) (hearsL ⟨a0, l1, l2⟩ cs host) (hearsE ⟨a0, l1, l2⟩ host) (decide (segs < 1 ∨ 8 < segs)) a0 l1 l2) true := by
  have h2 := j2_ev a0 l1 l2 op cs raw host o1 o2 o3 oc hl hl1 hl2 hp hraw
  by_cases hb : segs < 1 ∨ 8 < segs
  · have hE : whereE cs segs = 2 := if_pos hb
    rw [hE, if_neg (by decide), decide_eq_true hb]
    refine Ev.step (fun k => ?_) h2
    simp only [K.footwaylaw20_JudgeTells.j1]
    rw [if_pos trivial, if_pos trivial, if_pos (by simp)]
  · rw [decide_eq_false hb]
    cases hs : cs.all (segOk segs)
    · have hE : whereE cs segs = 1 := by
        unfold whereE
        rw [if_neg hb, if_neg (by intro q; have q' : cs.all (segOk segs) = true := q; rw [hs] at q'; cases q')]
      rw [hE, if_neg (by decide)]
      refine Ev.step (fun k => ?_) h2
      simp only [K.footwaylaw20_JudgeTells.j1]
      unfold K.footwayref20_Segs.f
      rw [if_neg (by decide), if_pos oc, Option.bind_some, hs, if_neg (by decide), if_pos trivial, if_pos (by simp)]
    · have hE : whereE cs segs = 0 := by
        unfold whereE
        rw [if_neg hb, if_pos (show (cs.all fun x => lanIn x.seg 0 (segs - 1)) = true from hs)]
      rw [hE, if_pos rfl]
      have hw := where_ev cs raw segs hl (by omega) (by omega)
      refine Ev.step (f := fun k => (K.footwayref20_Where.f k cs raw segs).bind fun t => (K.footwayref06_Same.f k (whereL cs raw segs.toNat) t).bind fun b => if b = true then K.footwaylaw20_JudgeTells.j2 k op cs host (strayV ⟨a0, l1, l2⟩ op cs) (strayE ⟨a0, l1, l2⟩ op cs) (hearsL ⟨a0, l1, l2⟩ cs host) (hearsE ⟨a0, l1, l2⟩ host) a0 l1 l2 else some false) (fun k => ?_) (Ev.bind hw (Ev.bind (same_self _ (by simp [whereL]; omega)) (Ev.congr (fun k => if_pos rfl) h2)))
      simp only [K.footwaylaw20_JudgeTells.j1]
      unfold K.footwayref20_Segs.f
      rw [if_neg (by decide), if_pos oc, Option.bind_some, hs, if_pos rfl, if_pos trivial]
theorem j0_ev : Ev (fun k => K.footwaylaw20_JudgeTells.j0 k op cs raw segs host (if whereE cs segs = 0 then whereL cs raw segs.toNat else []) (whereE cs segs) (strayV ⟨a0, l1, l2⟩ op cs) (strayE ⟨a0, l1, l2⟩ op cs) (hearsL ⟨a0, l1, l2⟩ cs host) (hearsE ⟨a0, l1, l2⟩ host) false a0 l1 l2) true := by
  have h1 := j1_ev a0 l1 l2 op cs raw segs host o1 o2 o3 oc hl hl1 hl2 hp hraw
  by_cases hb : segs < 1
  · rw [decide_eq_true (.inl hb)] at h1
    refine Ev.step (fun k => ?_) h1
    simp only [K.footwaylaw20_JudgeTells.j0]
    rw [if_neg (by decide), if_pos hb]
  · by_cases hb2 : 8 < segs
    · rw [decide_eq_true (.inr hb2)] at h1
      refine Ev.step (fun k => ?_) h1
      simp only [K.footwaylaw20_JudgeTells.j0]
      rw [if_neg (by decide), if_neg hb, decide_eq_true (show segs > 8 from hb2)]
    · rw [decide_eq_false (fun q => q.elim hb hb2)] at h1
      refine Ev.step (fun k => ?_) h1
      simp only [K.footwaylaw20_JudgeTells.j0]
      rw [if_neg (by decide), if_neg hb, decide_eq_false (show ¬ segs > 8 from hb2)]
end
theorem alive_eq : K.footwaylaw20_alive.f = some true := by
  unfold K.footwaylaw20_alive.f K.judge_Twice.f
  rw [if_pos (by
    intro x hx
    simp only [List.mem_cons, List.not_mem_nil, or_false] at hx
    rcases hx with rfl | rfl | rfl <;> exact ⟨by constructor <;> decide, by constructor <;> decide, by constructor <;> decide, by constructor <;> decide, by decide⟩), Option.bind_some]
  rfl
theorem okPlan_cut {l1 : List Plan} (h : ∀ x ∈ l1, okPlan x) : ∀ x ∈ (l1.take 8).map cutP, okPlan x := fun x hx => by
  obtain ⟨p, hp, rfl⟩ := List.mem_map.1 hx
  have := h p (List.mem_of_mem_take hp)
  exact ⟨this.1, fun y hy => this.2 y (List.mem_of_mem_take hy)⟩
theorem okCopy_few {cs : List Copy} (h : ∀ x ∈ cs, okCopy x) : ∀ x ∈ fewL cs, okCopy x := fun x hx => by
  obtain ⟨c, hc, rfl⟩ := List.mem_map.1 hx
  have := h c (List.mem_of_mem_take hc)
  refine ⟨this.1, this.2.1, this.2.2.1, this.2.2.2.1, ?_⟩
  show (c.raw.extract 0 (min c.raw.size 130)).size ≤ 9223372036854775807
  rw [ByteArray.size_extract]; omega
theorem law_ev (a0 : Int) (l1 : List Plan) (l2 : List Host) (op : List (List Bool)) (cs : List Copy) (raw : ByteArray) (segs host : Int) (o1 : ∀ x ∈ l1, okPlan x) (o2 : ∀ x ∈ l2, okHost x) (o3 : int64 a0) (oc : ∀ x ∈ cs, okCopy x) :
    Ev (fun k => K.footwaylaw20_JudgeTells.f k a0 l1 l2 op cs raw segs host) true := by
  have e := mn_nat raw.size 130
  rw [show ((130 : Nat) : Int) = 130 from rfl] at e
  obtain ⟨R, hR⟩ : ∃ R, R = raw.extract 0 (min raw.size 130) := ⟨_, rfl⟩
  have hRs : R.size ≤ 9223372036854775807 := by rw [hR, ByteArray.size_extract]; omega
  obtain ⟨P, hP⟩ : ∃ P, P = (l1.take 8).map cutP := ⟨_, rfl⟩
  obtain ⟨H, hH⟩ : ∃ H, H = l2.take 12 := ⟨_, rfl⟩
  obtain ⟨O, hO⟩ : ∃ O, O = (op.take 8).map (List.take 10) := ⟨_, rfl⟩
  obtain ⟨C, hC⟩ : ∃ C, C = fewL cs := ⟨_, rfl⟩
  have p1 : ∀ x ∈ P, okPlan x := hP ▸ okPlan_cut o1
  have p2 : ∀ x ∈ H, okHost x := fun x hx => o2 x (List.mem_of_mem_take (hH ▸ hx))
  have pc : ∀ x ∈ C, okCopy x := hC ▸ okCopy_few oc
  have q1 : P.length ≤ 1000000 := by rw [hP, List.length_map, List.length_take]; omega
  have q2 : H.length ≤ 1000000 := by rw [hH, List.length_take]; omega
  have q3 : C.length ≤ 1000000 := by rw [hC, fewL, List.length_map, List.length_take]; omega
  have q4 : ∀ p ∈ P, p.ports.length ≤ 1000000 := fun p hp => by
    rw [hP] at hp
    obtain ⟨q, _, rfl⟩ := List.mem_map.1 hp
    show (q.ports.take 10).length ≤ 1000000
    rw [List.length_take]; omega
  have c1 := cut_ev a0 l1 l2
  rw [← hP, ← hH] at c1
  have c2 := rows_ev op
  rw [← hO] at c2
  have c3 := hears_ev a0 P H C host p1 p2 o3 pc q3
  have c4 := j0_ev a0 P H O C R segs host p1 p2 o3 pc q3 q1 q2 q4 hRs
  refine Ev.congr (f := fun k => (K.footwaylaw20_cut.f k a0 l1 l2).bind fun b => (K.footwaylaw20_rows.f k op).bind fun o => (K.judge_Where.f C R segs).bind fun w => (K.judge_Stray.f b.1 b.2.1 b.2.2 o C).bind fun s => (K.judge_Hears.f k b.1 b.2.1 b.2.2 C host).bind fun h => (K.judge_Twice.f C).bind fun t => (K.footwayref20_Twice.f C).bind fun t' => if t = t' then K.footwaylaw20_JudgeTells.j0 k o C R segs host w.1 w.2 s.1 s.2 h.1 h.2 false b.1 b.2.1 b.2.2 else K.footwaylaw20_JudgeTells.j0 k o C R segs host w.1 w.2 s.1 s.2 h.1 h.2 true b.1 b.2.1 b.2.2) (fun k => ?_) ?_
  · unfold K.footwaylaw20_JudgeTells.f K.footwaylaw20_few.f
    rw [if_pos oc]
    refine congrArg (Option.bind _) (funext fun b => congrArg (Option.bind _) (funext fun o => ?_))
    rw [Option.bind_some, ← hC, e, if_pos (by omega), if_pos (by omega), Int.toNat_natCast, ← hR, alive_eq]
    rfl
  · refine Ev.bind c1 (Ev.bind c2 ?_)
    have w1 : K.judge_Where.f C R segs = some (if whereE C segs = 0 then whereL C R segs.toNat else [], whereE C segs) := if_pos ⟨pc, q3, hRs⟩
    have s1 : K.judge_Stray.f a0 P H O C = some (strayV ⟨a0, P, H⟩ O C, strayE ⟨a0, P, H⟩ O C) := if_pos ⟨p1, p2, o3, pc⟩
    have t1 : K.judge_Twice.f C = some (twiceFrom C [] 0) := if_pos pc
    have t2 : K.footwayref20_Twice.f C = some (twiceFrom C [] 0) := if_pos pc
    refine Ev.congr (f := fun k => (K.judge_Hears.f k a0 P H C host).bind fun h => K.footwaylaw20_JudgeTells.j0 k O C R segs host (if whereE C segs = 0 then whereL C R segs.toNat else []) (whereE C segs) (strayV ⟨a0, P, H⟩ O C) (strayE ⟨a0, P, H⟩ O C) h.1 h.2 false a0 P H) (fun k => ?_) (Ev.bind c3 c4)
    rw [w1, Option.bind_some, s1, Option.bind_some]
    simp only [t1, t2, Option.bind_some, if_true]
end Go.Proofs.Ytjblfgagafmhcaa.Fw
namespace Go.Proofs.Ytjblfgagafmhcaa.Fw
open Go.RowKit
open Go.Proofs.YtjblfgagafmhcaaW.PrintWords (Kd ReadsRow)
theorem wf64 {x : Int} (h : (Lit.int .i64 x).wf = true) : int64 x := by
  simp [Lit.wf, IntKind.min, IntKind.max, IntKind.signed, IntKind.bits] at h
  exact h
theorem C_of_sl {α : Type} {d : Kd α} {D : Rp α} {w : World} {A : Option Addr} {c : Nat} {xs : List α} (hs : d.sz = D.sz) (h : Sl D w A c xs) (hK : ∀ x cs, D.K w x cs → d.K w x cs) : Kd.C d w A xs.length xs := by
  refine ⟨rfl, h.bound, fun hp => ?_⟩
  obtain ⟨b, off, e, hlt, hx⟩ := h.2.2 hp
  refine ⟨⟨b, off, none⟩, e, fun j x hj => ?_⟩
  obtain ⟨cs, hk, hc⟩ := hx j x hj
  exact ⟨cs, by rw [hs]; exact D.len hk, hK x cs hk, fun i u hi => by rw [add_none, hs]; exact hc i u hi⟩
theorem cLink {w : World} {A : Option Addr} {c : Nat} {xs : List Link} (h : Sl rLink w A c xs) : Kd.C K.k66 w A xs.length xs :=
  C_of_sl rfl h fun x cs hk => by obtain ⟨rfl, _⟩ := hk; exact K.k66_mk w x
theorem cPlan {w : World} {A : Option Addr} {c : Nat} {xs : List Plan} (h : Sl rPlan w A c xs) : Kd.C K.k64 w A xs.length xs :=
  C_of_sl rfl h fun x cs hk => by
    obtain ⟨A1, c1, rfl, _, hS⟩ := hk
    exact K.k64_mk w x hS.1 (cLink hS)
theorem cHost {w : World} {A : Option Addr} {c : Nat} {xs : List Host} (h : Sl rHost w A c xs) : Kd.C K.k91 w A xs.length xs :=
  C_of_sl rfl h fun x cs hk => by obtain ⟨rfl, _⟩ := hk; exact K.k91_mk w x
theorem cCopy {w : World} {A : Option Addr} {c : Nat} {xs : List Copy} (h : Sl rCopy w A c xs) : Kd.C K.k80 w A xs.length xs :=
  C_of_sl rfl h fun x cs hk => by obtain ⟨rfl, _⟩ := hk; exact K.k80_mk w x
theorem cBool {w : World} {A : Option Addr} {c : Nat} {xs : List Bool} (h : Sl rBool w A c xs) : Kd.C Kd.bool w A xs.length xs :=
  C_of_sl rfl h fun x cs hk => hk
theorem cBools {w : World} {A : Option Addr} {c : Nat} {xs : List (List Bool)} (h : Sl (rSl rBool) w A c xs) : Kd.C (Kd.slice 4 Kd.bool) w A xs.length xs :=
  C_of_sl rfl h fun x cs hk => by
    obtain ⟨A1, c1, rfl, hS⟩ := hk
    exact ⟨A1, c1, rfl, hS.1, cBool hS⟩
theorem oLinks {w : World} {A : Option Addr} {c : Nat} {xs : List Link} (h : Sl rLink w A c xs) : ∀ x ∈ xs, okLink x := fun x hx => by
  obtain ⟨cs, _, h1, h2⟩ := h.all x hx
  exact ⟨h1, h2⟩
theorem oPlans {w : World} {A : Option Addr} {c : Nat} {xs : List Plan} (h : Sl rPlan w A c xs) : ∀ x ∈ xs, okPlan x := fun x hx => by
  obtain ⟨cs, A1, c1, _, h1, h2⟩ := h.all x hx
  exact ⟨h1, oLinks h2⟩
theorem oHosts {w : World} {A : Option Addr} {c : Nat} {xs : List Host} (h : Sl rHost w A c xs) : ∀ x ∈ xs, okHost x := fun x hx => by
  obtain ⟨cs, _, h1, h2⟩ := h.all x hx
  exact ⟨h1, h2⟩
theorem oCopies {w : World} {A : Option Addr} {c : Nat} {xs : List Copy} (h : Sl rCopy w A c xs) : ∀ x ∈ xs, okCopy x := fun x hx => by
  obtain ⟨cs, _, h1, h2, h3, h4, h5⟩ := h.all x hx
  exact ⟨h1, h2, h3, h4, h5⟩
end Go.Proofs.Ytjblfgagafmhcaa.Fw
namespace Go.Proofs.Ytjblfgagafmhcaa.lawJudgeTells
open Go.ChangeShapes Go.WideShapes Go.ChangeAt Go.RowKit
open Go.ChangeMaps (open_string shut_string)
open Go.Proofs.Ytjblfgagafmhcaa.Fw
theorem calls (p : Lan) (cs : List Value) {W : World} (hp : rLan.K W p cs) (op : List (List Bool)) (A1 : Option Addr) (c1 : Nat) (h1 : Sl (rSl rBool) W A1 c1 op) (l : List Copy) (A2 : Option Addr) (c2 : Nat) (h2 : Sl rCopy W A2 c2 l)
    (raw : ByteArray) (_hr : raw.size ≤ 9223372036854775807) (segs : Int) (_hs : int64 segs) (host : Int) (_hh : int64 host) :
    Calls Try.prog 3 #[.agg cs.toArray, .slice A1 op.length c1, .slice A2 l.length c2, .string raw, .int .i64 segs, .int .i64 host] W fun e w' => e = .returned (.bool true) ∧ Below W.heap.size W w' := by
  obtain ⟨B1, d1, B2, d2, rfl, h3, h4, h5⟩ := hp
  obtain ⟨k, hk⟩ := (law_ev p.segs p.plans p.hosts op l raw segs host (oPlans h4) (oHosts h5) h3 (oCopies h2)).rounds
  exact K.footwaylaw20_JudgeTells.calls k p.segs B1 d1 p.plans B2 d2 p.hosts A1 c1 op A2 c2 l raw segs host true W (cPlan h4) h4.1 (cHost h5) h5.1 (cBools h1) h1.1 (cCopy h2) h2.1 hk
theorem own : ownKnob Try.prog.godebug = none := by kernel_rfl
theorem laid : laidOutB Try.prog = true := by kernel_rfl
set_option maxRecDepth 100000 in
theorem lifted (os : Os) (started : os.Started) (H : Type) (enc : TypeId × Value → H) :
    ReturnsInHanded {} Try.checked os 3 .any (Rows.judgeTellsSpec.pre6 enc Try.prog Try.f3 Rows.judgeTellsRow.domain false) (Rows.judgeTellsSpec.post enc Try.prog Try.f3 false true false false) := by
  refine returnsInHanded_of_change_sized (C := Try.checked) own started (by kernel_rfl) Try.func3
    (ChangeSpec.witness6 (enc := enc) (C := Try.checked) false ⟨#[], #[.agg #[.int .i64 0, .slice none 0 0, .slice none 0 0], .slice none 0 0, .slice none 0 0, .string ByteArray.empty, .int .i64 0, .int .i64 0], []⟩ 8 (by kernel_rfl) (by kernel_rfl) (by kernel_rfl) (by kernel_rfl)) ?_
  intro W base args ds gs before hval0 hW hcnd hsz0 _
  have hval : ∀ (j : Nat) t v, Try.f3.params[j]? = some t → args[j]? = some v → Value.okWide Try.prog W .any base t v := hval0
  have hW' := hW
  obtain ⟨p, q, hA0, hV, rfl, hfz, hnd⟩ := hW
  have hA : DataW.TrodAll enc Try.prog W 0 (fun _ => true) true Try.f3.params.toList args.toList ds p := hA0
  rw [Try.params3] at hA hval
  obtain ⟨v0, vs0, d0, ds0, p0, q0, hargs, rfl, rfl, h0, r0⟩ := trodAll_cons hA
  obtain ⟨v1, vs1, d1, ds1, p1, q1, rfl, rfl, rfl, h1, r1⟩ := trodAll_cons r0
  obtain ⟨v2, vs2, d2, ds2, p2, q2, rfl, rfl, rfl, h2, r2⟩ := trodAll_cons r1
  obtain ⟨v3, vs3, d3, ds3, p3, q3, rfl, rfl, rfl, h3, r3⟩ := trodAll_cons r2
  obtain ⟨v4, vs4, d4, ds4, p4, q4, rfl, rfl, rfl, h4, r4⟩ := trodAll_cons r3
  obtain ⟨v5, vs5, d5, ds5, p5, q5, rfl, rfl, rfl, h5, r5⟩ := trodAll_cons r4
  obtain ⟨rfl, rfl, rfl⟩ := trodAll_nil r5
  obtain rfl : args = #[v0, v1, v2, v3, v4, v5] := by cases args; simp_all
  obtain ⟨rfl, rfl⟩ := trodVars_none hV
  have k0 := h0
  have lt0 : ∀ x ∈ p0, x.block < W.heap.size := by obtain ⟨m, hm⟩ := k0; exact DataW.trod_lt m _ _ _ hm
  obtain ⟨cs0, rfl, _⟩ := okWide_struct Try.underlying25 (hval 0 25 v0 rfl rfl)
  obtain ⟨x0, K0⟩ : ∃ x, rLan.K W x cs0.toList := by
    obtain ⟨m, hm⟩ := h0
    exact opens_Lan _ _ _ _ _ _ _ hm
  obtain ⟨xs0, rfl⟩ : ∃ xs : List Value, cs0 = xs.toArray := ⟨cs0.toList, by simp⟩
  simp only [List.toList_toArray] at K0
  have k1 := h1
  have lt1 : ∀ x ∈ p1, x.block < W.heap.size := by obtain ⟨m, hm⟩ := k1; exact DataW.trod_lt m _ _ _ hm
  obtain ⟨A1, l1, c1, rfl⟩ := okWide_slice Try.underlying26 (hval 1 26 v1 rfl rfl)
  obtain ⟨x1, K1⟩ : ∃ x, (rSl (rSl rBool)).K W x [.slice A1 l1 c1] := by
    obtain ⟨m, hm⟩ := h1
    exact (opens_sl Try.underlying26 (by kernel_rfl) (opens_sl Try.underlying67 (by kernel_rfl) (opens_bool Try.underlying4))) _ _ _ _ _ _ _ hm
  obtain ⟨B1, e1, E1, S1⟩ := K1
  obtain ⟨rfl, rfl, rfl⟩ : A1 = B1 ∧ l1 = x1.length ∧ c1 = e1 := by simpa using E1
  clear E1
  have k2 := h2
  have lt2 : ∀ x ∈ p2, x.block < W.heap.size := by obtain ⟨m, hm⟩ := k2; exact DataW.trod_lt m _ _ _ hm
  obtain ⟨A2, l2, c2, rfl⟩ := okWide_slice Try.underlying27 (hval 2 27 v2 rfl rfl)
  obtain ⟨x2, K2⟩ : ∃ x, (rSl rCopy).K W x [.slice A2 l2 c2] := by
    obtain ⟨m, hm⟩ := h2
    exact (opens_sl Try.underlying27 (by kernel_rfl) opens_Copy) _ _ _ _ _ _ _ hm
  obtain ⟨B2, e2, E2, S2⟩ := K2
  obtain ⟨rfl, rfl, rfl⟩ : A2 = B2 ∧ l2 = x2.length ∧ c2 = e2 := by simpa using E2
  clear E2
  obtain ⟨a3, rfl, rfl, rfl, y3⟩ := open_string Try.underlying9 (hval 3 9 v3 rfl rfl) h3
  obtain ⟨a4, rfl, rfl, rfl, w4⟩ := open_int Try.underlying3 (hval 4 3 v4 rfl rfl) h4
  obtain ⟨a5, rfl, rfl, rfl, w5⟩ := open_int Try.underlying3 (hval 5 3 v5 rfl rfl) h5
  clear hA0 hval0 hsz0
  refine (calls x0 xs0 K0 x1 A1 c1 S1 x2 A2 c2 S2 a3 (by simpa [maxLen] using y3) a4 (wf64 w4) a5 (wf64 w5)).mono fun e W' ⟨he, bel⟩ => ?_
  subst he
  exact ⟨_, rfl, _, _, _, [], _, [], hW', trodAll_mk1 (shut_bool Try.underlying4 _), (trodAll_cons_mk (Below.trod laid (by kernel_rfl) (of_decide_eq_true (by kernel_rfl)) k0 bel lt0) (trodAll_cons_mk (Below.trod laid (by kernel_rfl) (of_decide_eq_true (by kernel_rfl)) k1 bel lt1) (trodAll_cons_mk (Below.trod laid (by kernel_rfl) (of_decide_eq_true (by kernel_rfl)) k2 bel lt2) (trodAll_cons_mk (shut_string Try.underlying9 y3) (trodAll_cons_mk (shut_int Try.underlying3 w4) (trodAll_cons_mk (shut_int Try.underlying3 w5) trodAll_mk0)))))), rfl, bel.frame _, fun h => by cases h⟩
theorem over : Rows.judgeTellsRow.holds Try.pinned (OpenSpec.ofChange Rows.judgeTellsSpec) :=
  OpenClaim.holds_of_wide 3 Try.f3 rfl rfl rfl rfl rfl rfl rfl ⟨rfl, rfl, rfl, rfl, rfl⟩ rfl rfl rfl rfl rfl (by kernel_rfl) Try.func3 (by kernel_rfl)
    (of_decide_eq_true (by kernel_rfl)) (by unfold Func.isWrapper; first | (rw [if_pos (by decide +kernel)]; kernel_rfl) | (rw [if_neg (by decide +kernel)]; exact ⟨rfl, rfl⟩))
    (fun os started H enc _ => lifted os started H enc)
theorem proved : Rows.JudgeTellsSaid := over
end Go.Proofs.Ytjblfgagafmhcaa.lawJudgeTells
namespace Go.Proofs.Ytjblfgagafmhcaa
theorem judgeTells_holds : Rows.JudgeTellsSaid := lawJudgeTells.proved
end Go.Proofs.Ytjblfgagafmhcaa
