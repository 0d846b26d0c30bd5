/- Part 23 of the proof of one statement: what is written for it by hand and by a program of this seat's, over the given program's form. Conditions: none. -/
import Derived.Test.YtjblfgagafmhcaaZ18
import Derived.Test.YtjblfgagafmhcaaZ22
import Derived.Test.YtjblfgagafmhcaaZ8
import Derived.Test.YtjblfgagafmhcaaZ7
set_option linter.unusedVariables false
set_option linter.unusedSimpArgs false
namespace Go.Proofs.Ytjblfgagafmhcaa.Fw
open Go.RowKit
open Go.Proofs.YtjblfgagafmhcaaW.PrintWords (rd Ev Ev.step Ev.now Ev.bind Ev.congr Ev.rounds)
def before (ids : List Int) (i : Nat) : Bool := (List.range i).any fun k => decide (ids[i]? = ids[k]?)
def dups (ids : List Int) : Bool := (List.range ids.length).any (before ids)
theorem range_drop {n s : Nat} {p : Nat → Bool} (h : s < n) : ((List.range n).drop s).any p = (p s || ((List.range n).drop (s + 1)).any p) := by
  rw [drop_of_get (x := s) (by simp [h]), List.any_cons]
theorem range_drop_end {n : Nat} {p : Nat → Bool} : ((List.range n).drop n).any p = false := by rw [List.drop_of_length_le (by simp)]; rfl
theorem dups_nodup (ids : List Int) : dups ids = !decide ids.Nodup := by
  cases hd : decide ids.Nodup with
  | true =>
    have hn := of_decide_eq_true hd
    rw [Bool.not_true]
    rw [Bool.eq_false_iff]
    intro h
    simp only [dups, before, List.any_eq_true, List.mem_range, decide_eq_true_eq] at h
    obtain ⟨i, hi, k, hk, e⟩ := h
    rw [List.getElem?_eq_getElem hi, List.getElem?_eq_getElem (by omega)] at e
    have := List.pairwise_iff_getElem.1 hn k i (by omega) hi hk
    exact this (Option.some.inj e).symm
  | false =>
    have hn := of_decide_eq_false hd
    rw [Bool.not_false]
    simp only [dups, before, List.any_eq_true, List.mem_range, decide_eq_true_eq]
    refine Decidable.byContradiction fun hc => hn ?_
    refine List.pairwise_iff_getElem.2 fun i j hi hj hij e => hc ⟨j, hj, i, hij, ?_⟩
    rw [List.getElem?_eq_getElem hi, List.getElem?_eq_getElem hj, e]
theorem ids_get {α : Type} {l : List α} {f : α → Int} {i : Nat} {x : α} (h : l[i]? = some x) : (l.map f)[i]? = some (f x) := by rw [List.getElem?_map, h]; rfl
theorem twice_l3 (a0 : Int) (l1 : List Plan) (l2 : List Host) (i : Nat) (hi : i < l2.length) (hl : l2.length ≤ 1000000) (r : Bool) (hr : Ev (fun k => K.footwayref15_twice.l2 k (l2.length : Int) ((i + 1 : Nat) : Int) a0 l1 l2) r) :
    ∀ (d j : Nat), j + d = i → Ev (fun k => K.footwayref15_twice.l3 k (i : Int) (j : Int) (l2.length : Int) (i : Int) a0 l1 l2) (((List.range i).drop j).any (fun k => decide ((l2.map fun x => x.mac)[i]? = (l2.map fun x => x.mac)[k]?)) || r)
  | 0, j, h => by
    obtain rfl : j = i := by omega
    rw [range_drop_end, Bool.false_or]
    refine Ev.step (fun k => ?_) hr
    simp only [K.footwayref15_twice.l3]
    rw [if_neg (by omega), wrap_succ (by omega)]
  | d + 1, j, h => by
    obtain ⟨x, hx⟩ := get_lt (l := l2) (s := i) hi
    obtain ⟨y, hy⟩ := get_lt (l := l2) (s := j) (by omega)
    rw [range_drop (by omega)]
    have ih := twice_l3 a0 l1 l2 i hi hl r hr d (j + 1) (by omega)
    rw [ids_get hx] at ih ⊢
    rw [ids_get hy]
    by_cases e : x.mac = y.mac
    · refine Ev.step (f := fun _ => some true) (fun k => ?_) (by rw [show decide (some x.mac = some y.mac) = true from by simp [e], Bool.true_or, Bool.true_or]; exact Ev.now _)
      simp only [K.footwayref15_twice.l3]
      rw [if_pos (by omega), if_pos (by omega), if_pos (by omega), if_pos (by omega), if_pos (by omega), rdH_get hx, rdH_get hy, if_pos e]
    · rw [show decide (some x.mac = some y.mac) = false from by simp [e], Bool.false_or]
      refine Ev.step (fun k => ?_) ih
      simp only [K.footwayref15_twice.l3]
      rw [if_pos (by omega), if_pos (by omega), if_pos (by omega), if_pos (by omega), if_pos (by omega), rdH_get hx, rdH_get hy, if_neg e, wrap_succ (by omega)]
theorem twice_l2 (a0 : Int) (l1 : List Plan) (l2 : List Host) (hl : l2.length ≤ 1000000) : ∀ (d i : Nat), i + d = l2.length → Ev (fun k => K.footwayref15_twice.l2 k (l2.length : Int) (i : Int) a0 l1 l2) (((List.range l2.length).drop i).any (before (l2.map fun x => x.mac)))
  | 0, i, h => by
    obtain rfl : i = l2.length := by omega
    rw [range_drop_end]
    refine Ev.step (f := fun _ => some false) (fun k => ?_) (Ev.now _)
    simp only [K.footwayref15_twice.l2]
    rw [if_neg (by omega)]
  | d + 1, i, h => by
    rw [range_drop (by omega)]
    have := twice_l3 a0 l1 l2 i (by omega) hl _ (twice_l2 a0 l1 l2 hl d (i + 1) (by omega)) i 0 (by omega)
    rw [List.drop_zero] at this
    refine Ev.step (fun k => ?_) this
    simp only [K.footwayref15_twice.l2]
    rw [if_pos (by omega)]
    rfl
theorem twice_l1 (a0 : Int) (l1 : List Plan) (l2 : List Host) (i : Nat) (hi : i < l1.length) (hl : l1.length ≤ 1000000) (r : Bool) (hr : Ev (fun k => K.footwayref15_twice.l0 k (l1.length : Int) ((i + 1 : Nat) : Int) a0 l1 l2) r) :
    ∀ (d j : Nat), j + d = i → Ev (fun k => K.footwayref15_twice.l1 k (i : Int) (j : Int) (l1.length : Int) (i : Int) a0 l1 l2) (((List.range i).drop j).any (fun k => decide ((l1.map fun x => x.id)[i]? = (l1.map fun x => x.id)[k]?)) || r)
  | 0, j, h => by
    obtain rfl : j = i := by omega
    rw [range_drop_end, Bool.false_or]
    refine Ev.step (fun k => ?_) hr
    simp only [K.footwayref15_twice.l1]
    rw [if_neg (by omega), wrap_succ (by omega)]
  | d + 1, j, h => by
    obtain ⟨x, hx⟩ := get_lt (l := l1) (s := i) hi
    obtain ⟨y, hy⟩ := get_lt (l := l1) (s := j) (by omega)
    rw [range_drop (by omega)]
    have ih := twice_l1 a0 l1 l2 i hi hl r hr d (j + 1) (by omega)
    rw [ids_get hx] at ih ⊢
    rw [ids_get hy]
    by_cases e : x.id = y.id
    · refine Ev.step (f := fun _ => some true) (fun k => ?_) (by rw [show decide (some x.id = some y.id) = true from by simp [e], Bool.true_or, Bool.true_or]; exact Ev.now _)
      simp only [K.footwayref15_twice.l1]
      rw [if_pos (by omega), if_pos (by omega), if_pos (by omega), if_pos (by omega), if_pos (by omega), rdP_get hx, rdP_get hy, if_pos e]
    · rw [show decide (some x.id = some y.id) = false from by simp [e], Bool.false_or]
      refine Ev.step (fun k => ?_) ih
      simp only [K.footwayref15_twice.l1]
      rw [if_pos (by omega), if_pos (by omega), if_pos (by omega), if_pos (by omega), if_pos (by omega), rdP_get hx, rdP_get hy, if_neg e, wrap_succ (by omega)]
theorem twice_l0 (a0 : Int) (l1 : List Plan) (l2 : List Host) (hl : l1.length ≤ 1000000) (hl2 : l2.length ≤ 1000000) : ∀ (d i : Nat), i + d = l1.length → Ev (fun k => K.footwayref15_twice.l0 k (l1.length : Int) (i : Int) a0 l1 l2) (((List.range l1.length).drop i).any (before (l1.map fun x => x.id)) || dups (l2.map fun x => x.mac))
  | 0, i, h => by
    obtain rfl : i = l1.length := by omega
    rw [range_drop_end, Bool.false_or]
    have := twice_l2 a0 l1 l2 hl2 l2.length 0 (by omega)
    rw [List.drop_zero] at this
    rw [show dups (l2.map fun x => x.mac) = (List.range l2.length).any (before (l2.map fun x => x.mac)) from by unfold dups; rw [List.length_map]]
    refine Ev.step (fun k => ?_) this
    simp only [K.footwayref15_twice.l0]
    rw [if_neg (by omega)]
    rfl
  | d + 1, i, h => by
    rw [range_drop (by omega), Bool.or_assoc]
    have := twice_l1 a0 l1 l2 i (by omega) hl _ (twice_l0 a0 l1 l2 hl hl2 d (i + 1) (by omega)) i 0 (by omega)
    rw [List.drop_zero] at this
    refine Ev.step (fun k => ?_) this
    simp only [K.footwayref15_twice.l0]
    rw [if_pos (by omega)]
    rfl
theorem twice_ev (a0 : Int) (l1 : List Plan) (l2 : List Host) (hl : l1.length ≤ 1000000) (hl2 : l2.length ≤ 1000000) : Ev (fun k => K.footwayref15_twice.f k a0 l1 l2) (!(decide (l1.map fun x => x.id).Nodup && decide (l2.map fun x => x.mac).Nodup)) := by
  have := twice_l0 a0 l1 l2 hl hl2 l1.length 0 (by omega)
  rw [List.drop_zero] at this
  rw [Bool.not_and, ← dups_nodup, ← dups_nodup, show dups (l1.map fun x => x.id) = (List.range l1.length).any (before (l1.map fun x => x.id)) from by unfold dups; rw [List.length_map]]
  exact this
theorem plan_l0 (segs : Int) (p : Plan) (ps : List Link) (hl : ps.length ≤ 1000000) : ∀ (d s : Nat), s + d = ps.length → Ev (fun k => K.footwayref15_plan.l0 k segs ps (ps.length : Int) (s : Int) p.id p.ports) (((ps.drop s).all (linkOk segs)) && (lanIn p.id 0 65535 && lanIn p.ports.length 1 8))
  | 0, s, h => by
    rw [List.drop_of_length_le (by omega)]
    refine Ev.step (f := fun _ => some (lanIn p.id 0 65535 && lanIn p.ports.length 1 8)) (fun k => ?_) (by rw [List.all_nil, Bool.true_and]; exact Ev.now _)
    simp only [K.footwayref15_plan.l0]
    rw [if_neg (by omega)]
    by_cases h1 : p.id ≥ 0
    · rw [if_pos h1]
      by_cases h2 : p.id ≤ 65535
      · rw [if_pos h2]
        by_cases h3 : (p.ports.length : Int) ≥ 1
        · rw [if_pos h3]
          have h1' : 0 ≤ p.id := h1
          have h3' : (1 : Int) ≤ (p.ports.length : Int) := h3
          unfold lanIn
          rw [decide_eq_true h1', decide_eq_true h2, decide_eq_true h3']; simp
        · rw [if_neg h3]
          have h3' : ¬ (1 : Int) ≤ (p.ports.length : Int) := h3
          unfold lanIn
          rw [decide_eq_false h3']; simp
      · rw [if_neg h2]; unfold lanIn; rw [decide_eq_false h2]; simp
    · rw [if_neg h1]
      have h1' : ¬ 0 ≤ p.id := h1
      unfold lanIn; rw [decide_eq_false h1']; simp
  | d + 1, s, h => by
    obtain ⟨x, hx⟩ := get_lt (l := ps) (s := s) (by omega)
    rw [drop_of_get hx, List.all_cons, Bool.and_assoc]
    have ih := plan_l0 segs p ps hl d (s + 1) (by omega)
    have fls : linkOk segs x = false → Ev (fun _ => some false) (linkOk segs x && ((ps.drop (s + 1)).all (linkOk segs) && (lanIn p.id 0 65535 && lanIn p.ports.length 1 8))) := fun hf => by rw [hf, Bool.false_and]; exact Ev.now _
    have hlk : linkOk segs x = (decide (0 ≤ x.seg) && decide (x.seg ≤ segs - 1) && (decide (1 ≤ x.cost) && decide (x.cost ≤ 1000))) := rfl
    by_cases h1 : x.seg < 0
    · refine Ev.step (fun k => ?_) (fls (by rw [hlk, decide_eq_false (show ¬ 0 ≤ x.seg by omega)]; rfl))
      simp only [K.footwayref15_plan.l0]
      rw [if_pos (by omega), if_pos (by omega), if_pos (by omega), rdL_get hx, if_pos h1]
    · by_cases h2 : x.seg ≥ segs
      · refine Ev.step (fun k => ?_) (fls (by rw [hlk, decide_eq_false (show ¬ x.seg ≤ segs - 1 by omega)]; simp))
        simp only [K.footwayref15_plan.l0]
        rw [if_pos (by omega), if_pos (by omega), if_pos (by omega), rdL_get hx, if_neg h1, if_pos h2]
      · by_cases h3 : x.cost < 1
        · refine Ev.step (fun k => ?_) (fls (by rw [hlk, decide_eq_false (show ¬ 1 ≤ x.cost by omega)]; simp))
          simp only [K.footwayref15_plan.l0]
          rw [if_pos (by omega), if_pos (by omega), if_pos (by omega), rdL_get hx, if_neg h1, if_neg h2, if_pos h3]
        · by_cases h4 : x.cost > 1000
          · refine Ev.step (fun k => ?_) (fls (by rw [hlk, decide_eq_false (show ¬ x.cost ≤ 1000 by omega)]; simp))
            simp only [K.footwayref15_plan.l0]
            rw [if_pos (by omega), if_pos (by omega), if_pos (by omega), rdL_get hx, if_neg h1, if_neg h2, if_neg h3, if_pos h4]
          · rw [show linkOk segs x = true from by rw [hlk]; simp; omega, Bool.true_and]
            refine Ev.step (fun k => ?_) ih
            simp only [K.footwayref15_plan.l0]
            rw [if_pos (by omega), if_pos (by omega), if_pos (by omega), rdL_get hx, if_neg h1, if_neg h2, if_neg h3, if_neg h4, wrap_succ (by omega)]
theorem plan_ev (segs : Int) (p : Plan) (hl : p.ports.length ≤ 1000000) : Ev (fun k => K.footwayref15_plan.f k p.id p.ports segs) (planOk segs p) := by
  have := plan_l0 segs p p.ports hl p.ports.length 0 (by omega)
  rw [List.drop_zero] at this
  have e : planOk segs p = (p.ports.all (linkOk segs) && (lanIn p.id 0 65535 && lanIn p.ports.length 1 8)) := by
    unfold planOk
    rw [List.not_any_eq_all_not, Bool.and_comm]
    simp
  rw [e]
  exact this
theorem refMac_eq (a : Int) (h : int64 a) : K.footwayref08_Mac.f a = some (isMac a) := by
  unfold K.footwayref08_Mac.f K.footwayref01_Right.f
  by_cases h0 : a ≥ 0
  · rw [if_pos h0, Option.bind_some]
    by_cases h1 : a < 281474976710656
    · have hA : isAddr a = true := by simp [isAddr]; omega
      rw [if_pos (by simp [h1]), refClass_eq a hA, Option.bind_some, isMac, hA, Bool.true_and]
    · have hA : isAddr a = false := by simp [isAddr]; omega
      rw [if_neg (by simp [h1]), isMac, hA, Bool.false_and]
  · have hA : isAddr a = false := by simp [isAddr]; omega
    rw [if_neg h0, Option.bind_some, if_neg (by decide), isMac, hA, Bool.false_and]
def hostOk (segs : Int) (h : Host) : Bool := isMac h.mac && lanIn h.seg 0 (segs - 1)
theorem right_l1 (a0 : Int) (l1 : List Plan) (l2 hs : List Host) (ok : ∀ x ∈ hs, okHost x) (hl : hs.length ≤ 1000000) : ∀ (d s : Nat), s + d = hs.length → Ev (fun k => K.footwayref15_Right.l1 k hs (hs.length : Int) (s : Int) a0 l1 l2) ((hs.drop s).all (hostOk a0))
  | 0, s, h => by
    rw [List.drop_of_length_le (by omega)]
    refine Ev.step (f := fun _ => some true) (fun k => ?_) (Ev.now _)
    simp only [K.footwayref15_Right.l1]
    rw [if_neg (by omega)]
  | d + 1, s, h => by
    obtain ⟨x, hx⟩ := get_lt (l := hs) (s := s) (by omega)
    have hox := ok x (List.mem_of_getElem? hx)
    rw [drop_of_get hx, List.all_cons]
    have ih := right_l1 a0 l1 l2 hs ok hl d (s + 1) (by omega)
    have fls : hostOk a0 x = false → Ev (fun _ => some false) (hostOk a0 x && (hs.drop (s + 1)).all (hostOk a0)) := fun hf => by rw [hf, Bool.false_and]; exact Ev.now _
    cases hm : isMac x.mac
    · refine Ev.step (fun k => ?_) (fls (by rw [hostOk, hm]; rfl))
      simp only [K.footwayref15_Right.l1]
      rw [if_pos (by omega), if_pos (by omega), if_pos (by omega), rdH_get hx, refMac_eq _ hox.1, Option.bind_some, hm, if_neg (by decide)]
    · by_cases h1 : x.seg < 0
      · refine Ev.step (fun k => ?_) (fls (by rw [hostOk, hm, lanIn, decide_eq_false (show ¬ 0 ≤ x.seg by omega)]; rfl))
        simp only [K.footwayref15_Right.l1]
        rw [if_pos (by omega), if_pos (by omega), if_pos (by omega), rdH_get hx, refMac_eq _ hox.1, Option.bind_some, hm, if_pos rfl, if_pos h1]
      · by_cases h2 : x.seg ≥ a0
        · refine Ev.step (fun k => ?_) (fls (by rw [hostOk, hm, lanIn, decide_eq_false (show ¬ x.seg ≤ a0 - 1 by omega)]; simp))
          simp only [K.footwayref15_Right.l1]
          rw [if_pos (by omega), if_pos (by omega), if_pos (by omega), rdH_get hx, refMac_eq _ hox.1, Option.bind_some, hm, if_pos rfl, if_neg h1, if_pos h2]
        · rw [show hostOk a0 x = true from by rw [hostOk, hm, lanIn]; simp; omega, Bool.true_and]
          refine Ev.step (fun k => ?_) ih
          simp only [K.footwayref15_Right.l1]
          rw [if_pos (by omega), if_pos (by omega), if_pos (by omega), rdH_get hx, refMac_eq _ hox.1, Option.bind_some, hm, if_pos rfl, if_neg h1, if_neg h2, wrap_succ (by omega)]
theorem right_l0 (a0 : Int) (l1 ps : List Plan) (l2 : List Host) (ok : ∀ x ∈ l2, okHost x) (hl2 : l2.length ≤ 1000000) (hl : ps.length ≤ 1000000) (hp : ∀ p ∈ ps, p.ports.length ≤ 1000000) : ∀ (d s : Nat), s + d = ps.length → Ev (fun k => K.footwayref15_Right.l0 k ps (ps.length : Int) (s : Int) a0 l1 l2) ((ps.drop s).all (planOk a0) && l2.all (hostOk a0))
  | 0, s, h => by
    rw [List.drop_of_length_le (by omega), List.all_nil, Bool.true_and]
    have := right_l1 a0 l1 l2 l2 ok hl2 l2.length 0 (by omega)
    rw [List.drop_zero] at this
    refine Ev.step (fun k => ?_) this
    simp only [K.footwayref15_Right.l0]
    rw [if_neg (by omega)]
    rfl
  | d + 1, s, h => by
    obtain ⟨x, hx⟩ := get_lt (l := ps) (s := s) (by omega)
    rw [drop_of_get hx, List.all_cons, Bool.and_assoc]
    have ih := right_l0 a0 l1 ps l2 ok hl2 hl hp d (s + 1) (by omega)
    have hpe := plan_ev a0 x (hp x (List.mem_of_getElem? hx))
    refine Ev.step (f := fun k => (K.footwayref15_plan.f k x.id x.ports a0).bind fun t => if t = true then K.footwayref15_Right.l0 k ps (ps.length : Int) ((s + 1 : Nat) : Int) a0 l1 l2 else some false) (fun k => ?_) (Ev.bind hpe ?_)
    · simp only [K.footwayref15_Right.l0]
      rw [if_pos (by omega), if_pos (by omega), if_pos (by omega), rdP_get hx, wrap_succ (by omega)]
    · cases planOk a0 x
      · exact Ev.now _
      · exact ih
theorem plansOk_iff (segs : Int) : ∀ (ps : List Plan) (met : List Int), plansOk segs ps met = (ps.all (planOk segs) && (decide (ps.map fun x => x.id).Nodup && (ps.map fun x => x.id).all fun i => !decide (i ∈ met)))
  | [], met => by simp [plansOk]
  | p :: ps, met => by
    rw [plansOk, plansOk_iff segs ps]
    rw [Bool.eq_iff_iff]
    simp only [List.map_cons, List.nodup_cons, List.all_cons, Bool.and_eq_true, decide_eq_true_eq, Bool.not_eq_true', decide_eq_false_iff_not, List.all_eq_true, List.mem_map, forall_exists_index, and_imp, forall_apply_eq_imp_iff₂, List.mem_cons, not_or]
    by_cases h1 : p.id ∈ met
    · simp [h1]
    · by_cases h2 : planOk segs p = true
      · simp only [h1, h2, if_false, if_true, not_false_eq_true, true_and, Bool.and_eq_true, List.all_eq_true, decide_eq_true_eq, List.mem_map, Bool.not_eq_true', decide_eq_false_iff_not, forall_exists_index, and_imp, forall_apply_eq_imp_iff₂, List.mem_cons, not_or]
        constructor
        · rintro ⟨h3, h4, h5⟩
          exact ⟨h3, ⟨fun ⟨q, hq, e⟩ => (h5 q hq).1 e, h4⟩, fun q hq => (h5 q hq).2⟩
        · rintro ⟨h3, ⟨h4, h5⟩, h6⟩
          exact ⟨h3, h5, fun q hq => ⟨fun e => h4 ⟨q, hq, e⟩, h6 q hq⟩⟩
      · simp [h1, h2]
theorem hostsOk_iff (segs : Int) : ∀ (hs : List Host) (met : List Int), hostsOk segs hs met = (hs.all (hostOk segs) && (decide (hs.map fun x => x.mac).Nodup && (hs.map fun x => x.mac).all fun i => !decide (i ∈ met)))
  | [], met => by simp [hostsOk]
  | p :: ps, met => by
    rw [hostsOk, hostsOk_iff segs ps]
    rw [Bool.eq_iff_iff]
    simp only [List.map_cons, List.nodup_cons, List.all_cons, Bool.and_eq_true, decide_eq_true_eq, Bool.not_eq_true', decide_eq_false_iff_not, List.all_eq_true, List.mem_map, forall_exists_index, and_imp, forall_apply_eq_imp_iff₂, List.mem_cons, not_or]
    by_cases h1 : p.mac ∈ met
    · simp [h1]
    · by_cases h2 : hostOk segs p = true
      · have h2' : (isMac p.mac && lanIn p.seg 0 (segs - 1)) = true := h2
        simp only [Bool.and_eq_true] at h2'
        simp only [h1, h2, h2'.1, h2'.2, if_false, if_true, not_false_eq_true, true_and, and_self, Bool.and_eq_true, List.all_eq_true, decide_eq_true_eq, List.mem_map, Bool.not_eq_true', decide_eq_false_iff_not, forall_exists_index, and_imp, forall_apply_eq_imp_iff₂, List.mem_cons, not_or]
        constructor
        · rintro ⟨h3, h4, h5⟩
          exact ⟨h3, ⟨fun ⟨q, hq, e⟩ => (h5 q hq).1 e, h4⟩, fun q hq => (h5 q hq).2⟩
        · rintro ⟨h3, ⟨h4, h5⟩, h6⟩
          exact ⟨h3, h5, fun q hq => ⟨fun e => h4 ⟨q, hq, e⟩, h6 q hq⟩⟩
      · have h2' : ¬ (isMac p.mac = true ∧ lanIn p.seg 0 (segs - 1) = true) := by rw [← Bool.and_eq_true]; exact h2
        simp [h1, h2, h2']
theorem lanRight_iff (l : Lan) : lanRight l = (decide (1 ≤ l.segs) && decide (l.segs ≤ 8) && decide (l.plans.length ≤ 6) && decide (l.hosts.length ≤ 8) && (decide (l.plans.map fun x => x.id).Nodup && decide (l.hosts.map fun x => x.mac).Nodup) && (l.plans.all (planOk l.segs) && l.hosts.all (hostOk l.segs))) := by
  unfold lanRight
  rw [plansOk_iff, hostsOk_iff, lanIn]
  rw [Bool.eq_iff_iff]
  simp only [Bool.and_eq_true, decide_eq_true_eq]
  simp only [List.not_mem_nil, decide_false, Bool.not_false, List.all_eq_true, implies_true, and_true]
  constructor <;> (intro h; simp_all)
theorem right_ev (a0 : Int) (l1 : List Plan) (l2 : List Host) (ok : ∀ x ∈ l2, okHost x) (hl2 : l2.length ≤ 1000000) (hl : l1.length ≤ 1000000) (hp : ∀ p ∈ l1, p.ports.length ≤ 1000000) : Ev (fun k => K.footwayref15_Right.f k a0 l1 l2) (lanRight ⟨a0, l1, l2⟩) := by
  rw [lanRight_iff]
  have bad : ∀ r : Bool, r = false → Ev (fun k => K.footwayref15_Right.j0 k true a0 l1 l2) r := fun r hr => by
    subst hr
    refine Ev.step (f := fun _ => some false) (fun k => ?_) (Ev.now _)
    simp only [K.footwayref15_Right.j0]
    rw [if_pos trivial]
  show Ev _ (decide (1 ≤ a0) && decide (a0 ≤ 8) && decide (l1.length ≤ 6) && decide (l2.length ≤ 8) && (decide (l1.map fun x => x.id).Nodup && decide (l2.map fun x => x.mac).Nodup) && (l1.all (planOk a0) && l2.all (hostOk a0)))
  by_cases h1 : a0 < 1
  · refine Ev.congr (fun k => ?_) (bad _ (by rw [decide_eq_false (show ¬ 1 ≤ a0 by omega)]; rfl))
    unfold K.footwayref15_Right.f; rw [if_pos h1]
  · by_cases h2 : a0 > 8
    · refine Ev.congr (fun k => ?_) (bad _ (by rw [decide_eq_false (show ¬ a0 ≤ 8 by omega)]; simp))
      unfold K.footwayref15_Right.f; rw [if_neg h1, if_pos h2]
    · by_cases h3 : (l1.length : Int) > 6
      · refine Ev.congr (fun k => ?_) (bad _ (by rw [decide_eq_false (show ¬ l1.length ≤ 6 by omega)]; simp))
        unfold K.footwayref15_Right.f; rw [if_neg h1, if_neg h2, if_pos h3]
      · by_cases h4 : (l2.length : Int) > 8
        · refine Ev.congr (fun k => ?_) (bad _ (by rw [decide_eq_false (show ¬ l2.length ≤ 8 by omega)]; simp))
          unfold K.footwayref15_Right.f; rw [if_neg h1, if_neg h2, if_neg h3, if_pos h4]
        · rw [decide_eq_true (show 1 ≤ a0 by omega), decide_eq_true (show a0 ≤ 8 by omega), decide_eq_true (show l1.length ≤ 6 by omega), decide_eq_true (show l2.length ≤ 8 by omega), Bool.true_and, Bool.true_and, Bool.true_and, Bool.true_and]
          refine Ev.congr (f := fun k => (K.footwayref15_twice.f k a0 l1 l2).bind fun t => K.footwayref15_Right.j0 k t a0 l1 l2) (fun k => ?_) (Ev.bind (twice_ev a0 l1 l2 hl hl2) ?_)
          · unfold K.footwayref15_Right.f; rw [if_neg h1, if_neg h2, if_neg h3, if_neg h4]
          · cases hd : decide (l1.map fun x => x.id).Nodup && decide (l2.map fun x => x.mac).Nodup
            · exact bad _ rfl
            · have := right_l0 a0 l1 l1 l2 ok hl2 hl hp l1.length 0 (by omega)
              rw [List.drop_zero] at this
              refine Ev.step (fun k => ?_) this
              simp only [K.footwayref15_Right.j0]
              rw [if_neg (by decide)]
              rfl
theorem rdB_get {l : List (List Bool)} {s : Nat} {x : List Bool} (h : l[s]? = some x) : l.getD s [] = x := by
  rw [List.getD_eq_getElem?_getD, h]; rfl
end Go.Proofs.Ytjblfgagafmhcaa.Fw
namespace Go.Proofs.Ytjblfgagafmhcaa.Fw
open Go.RowKit
def leadsAt (ps : List Link) (os : List Bool) (u v : Int) (i k : Nat) : Bool := decide (i ≠ k) && ((ps[i]?.map fun x => x.up && decide (x.seg = u)).getD false && ((ps[k]?.map fun y => y.up && decide (y.seg = v)).getD false && ((os[i]?.getD false) && (os[k]?.getD false))))
def leadsRow (ps : List Link) (os : List Bool) (u v : Int) (i : Nat) : Bool := (List.range ps.length).any (leadsAt ps os u v i)
def leadsIn (ps : List Link) (os : List Bool) (u v : Int) : Bool := (List.range ps.length).any (leadsRow ps os u v)
theorem range_get {n i : Nat} (h : i < n) : (List.range n)[i]? = some i := by simp [h]
theorem range_end (n : Nat) (p : Nat → Bool) : ((List.range n).drop n).any p = false := by rw [List.drop_of_length_le (by simp)]; rfl
set_option maxHeartbeats 2000000 in
set_option maxRecDepth 100000 in
theorem leads_any (l : Lan) (A1 A2 A3 : Option Addr) (c1 c2 c3 : Nat) (op : List (List Bool)) (b : Nat) (u v : Int) (w : World) (h1 : Sl rPlan w A1 c1 l.plans) (h3 : Sl (rSl rBool) w A3 c3 op)
    (p : Plan) (r : List Bool) (hp : l.plans[b]? = some p) (hr : op[b]? = some r) (hl : r.length = p.ports.length) :
    Calls Try.prog 152 #[lanV l A1 A2 c1 c2, .slice A3 op.length c3, .int .i64 b, .int .i64 u, .int .i64 v] w fun e w' => e = .returned (.bool (leadsIn p.ports r u v)) ∧ Below w.heap.size w w' := by
  have hbl := (List.getElem?_eq_some_iff.1 hp).1
  have hbo := (List.getElem?_eq_some_iff.1 hr).1
  have hn1 := h1.bound
  have hn3 := h3.bound
  have hbz1 : (b : Int) < (l.plans.length : Int) := by omega
  have hbz3 : (b : Int) < (op.length : Int) := by omega
  have hz0 : (0 : Int) ≤ (b : Int) := by omega
  have HB0 : Below w.heap.size w (w.alloc (.cells #[.int .i64 l.segs, .slice A1 l.plans.length c1, .slice A2 l.hosts.length c2] 25)) := (Below.refl _ _).alloc (Nat.le_refl _) _
  obtain ⟨b0, off, x, A0, c0, rfl, hb, hd, hK, f0, f1, q0, q1⟩ := h1.atPlan (Below.refl _ _) b hbl
  obtain ⟨b3, off3, y, A5, c5, rfl, hb3, hd3, hK3, g0, p0⟩ := h3.atSl (Below.refl _ _) b hbo
  obtain rfl : x = p := by rw [hp] at hd; exact (Option.some.inj hd).symm
  obtain rfl : y = r := by rw [hr] at hd3; exact (Option.some.inj hd3).symm
  have hpl := f1.bound
  have F1 := Lib.hid f1
  have G0 := Lib.hid g0
  have HBX := Lib.hid HB0
  have Q0 := Lib.hid q0
  have Q1 := Lib.hid q1
  have P0 := Lib.hid p0
  have q1' := (HB0.cell (p := ⟨b0, _, none⟩) hb).trans q1
  clear hK hd hK3 hd3 h1 h3 f1 g0 HB0 q0 q1 p0
  unfold lanV
  go_enter Try.func152, Try.ntmps152
  go_wp2
  go_loopg [22] x.ports.length (fun gg s22 wr => ∃ (kk : Nat), kk ≤ x.ports.length ∧ x.ports.length - kk ≤ gg ∧ s22 = .int .i64 kk ∧ Aside (Below w.heap.size w wr) ∧
    Aside (wr.heap[w.heap.size]? = some (.cells #[.int .i64 l.segs, .slice (some ⟨b0, off, none⟩) l.plans.length c1, .slice A2 l.hosts.length c2] 25 (0, 0))) ∧ Aside (((List.range x.ports.length).drop kk).any (leadsRow x.ports y u v) = leadsIn x.ports y u v))
  case atStart => exact ⟨0, Nat.zero_le _, by omega, rfl, aside HBX.out, aside (blk_new _ _), aside rfl⟩
  case round =>
    generalize wr = wa at *
    obtain ⟨kk, hkk, hg, rfl, BW, L0, HR⟩ := hrel
    by_cases hlt : kk < x.ports.length
    · have hlz : (kk : Int) < (x.ports.length : Int) := by omega
      obtain ⟨b5, off5, z, rfl, hb5, hdz, hKz, u0, u1, m0, m1, m2⟩ := F1.out.atLink BW.out kk hlt
      have HZ := Lib.hid hdz
      have HR2 := Lib.hid (show (leadsRow x.ports y u v kk || ((List.range x.ports.length).drop (kk + 1)).any (leadsRow x.ports y u v)) = leadsIn x.ports y u v from any_of_drop (range_get hlt) HR.out)
      have r1 := fun o => blk_cell (i := 1) (blk_alloc L0.out o) rfl
      have q1w := fun o => (((BW.out.alloc BW.out.size o).cell (p := ⟨b0, _, none⟩) hb).trans Q1.out)
      clear hKz hdz HR
      go_wp2
      go_loopg [34] x.ports.length (fun gg s34 w2 => ∃ (jj : Nat), jj ≤ x.ports.length ∧ x.ports.length - jj ≤ gg ∧ s34 = .int .i64 jj ∧ Aside (Below w.heap.size w w2) ∧
        Aside (w2.heap[w.heap.size]? = some (.cells #[.int .i64 l.segs, .slice (some ⟨b0, off, none⟩) l.plans.length c1, .slice A2 l.hosts.length c2] 25 (0, 0))) ∧
        Aside (w2.heap[wa.heap.size]? = some (.cells #[.int .i64 z.seg, .int .i64 z.cost, .bool z.up] 66 (0, 0))) ∧ Aside (((List.range x.ports.length).drop jj).any (leadsAt x.ports y u v kk) = leadsRow x.ports y u v kk))
      case atStart => exact ⟨0, Nat.zero_le _, by omega, rfl, aside (BW.out.alloc BW.out.size _), aside (blk_alloc L0.out _), aside (blk_new _ _), aside rfl⟩
      case round =>
        obtain ⟨jj, hjj, hg2, rfl, BW2, L2, X2, HI⟩ := hrel
        by_cases hlt2 : jj < x.ports.length
        · have hlz2 : (jj : Int) < (x.ports.length : Int) := by omega
          obtain ⟨b6, off6, z2, he6, hb6, hdz2, hKz2, v0, v1, n0, n1, n2⟩ := F1.out.atLink BW2.out jj hlt2
          cases he6
          have hyl : kk < y.length := by omega
          have hyl2 : jj < y.length := by omega
          obtain ⟨b7, off7, s, rfl, hb7, hds, hKs, t0⟩ := G0.out.atBool BW2.out kk hyl
          obtain ⟨b8, off8, s2, he8, hb8, hds2, hKs2, t1⟩ := G0.out.atBool BW2.out jj hyl2
          cases he8
          have hlz3 : (kk : Int) < (y.length : Int) := by omega
          have hlz4 : (jj : Int) < (y.length : Int) := by omega
          have HZ2 := Lib.hid hdz2
          have hat : leadsAt x.ports y u v kk jj = (decide (kk ≠ jj) && ((z.up && decide (z.seg = u)) && ((z2.up && decide (z2.seg = v)) && (s && s2)))) := by
            simp [leadsAt, HZ.out, hdz2, hds, hds2]
          have HI2 := Lib.hid (by have := any_of_drop (range_get hlt2) HI.out; rwa [hat] at this : (decide (kk ≠ jj) && ((z.up && decide (z.seg = u)) && ((z2.up && decide (z2.seg = v)) && (s && s2))) || ((List.range x.ports.length).drop (jj + 1)).any (leadsAt x.ports y u v kk)) = leadsRow x.ports y u v kk)
          have p0' := fun o => (((BW2.out.alloc BW2.out.size o).cell (p := ⟨b3, _, none⟩) hb3).trans P0.out)
          have t0' := fun o => (((Below.refl wr.heap.size wr).alloc (Nat.le_refl _) o).cell (p := ⟨b7, _, none⟩) hb7).trans t0
          have t1' := fun o => (((Below.refl wr.heap.size wr).alloc (Nat.le_refl _) o).cell (p := ⟨b7, _, none⟩) hb8).trans t1
          have s0 : ∀ o, (wr.alloc o).cell? ⟨wa.heap.size, 0, none⟩ = some (.int .i64 z.seg) := fun o => blk_cell (i := 0) (blk_alloc X2.out o) rfl
          have s1 : ∀ o, (wr.alloc o).cell? ⟨wa.heap.size, 2, none⟩ = some (.bool z.up) := fun o => blk_cell (i := 2) (blk_alloc X2.out o) rfl
          clear hKz2 hdz2 hKs hds hKs2 hds2 HI hat
          by_cases e1 : kk = jj
          · subst e1
            go_wp2
            go_roundg (x.ports.length - (kk + 1))
            case measure => omega
            case rel => exact ⟨kk + 1, by omega, by omega, by go_num, aside (by have := BW2.out.alloc BW2.out.size; exact this _), aside (blk_alloc L2.out _), aside (blk_alloc X2.out _), aside (by rw [← HI2.out]; simp)⟩
          · have e1z : ¬ (kk : Int) = (jj : Int) := by omega
            rcases (Bool.eq_false_or_eq_true z.up).symm with hu | hu
            · simp only [hu] at s1
              have HU := Lib.hid hu
              clear hu
              go_wp2
              go_roundg (x.ports.length - (jj + 1))
              case measure => omega
              case rel => exact ⟨jj + 1, by omega, by omega, by go_num, aside (by have := BW2.out.alloc BW2.out.size; exact this _), aside (blk_alloc L2.out _), aside (blk_alloc X2.out _), aside (by rw [← HI2.out]; simp [HU.out])⟩
            · simp only [hu] at s1
              have HU := Lib.hid hu
              clear hu
              rcases (Bool.eq_false_or_eq_true z2.up).symm with hu2 | hu2
              · rw [hu2] at n2
                have HU2 := Lib.hid hu2
                clear hu2
                go_wp2
                go_roundg (x.ports.length - (jj + 1))
                case measure => omega
                case rel => exact ⟨jj + 1, by omega, by omega, by go_num, aside (by have := BW2.out.alloc BW2.out.size; exact this _), aside (blk_alloc L2.out _), aside (blk_alloc X2.out _), aside (by rw [← HI2.out]; simp [HU2.out])⟩
              · rw [hu2] at n2
                have HU2 := Lib.hid hu2
                clear hu2
                rcases (Bool.eq_false_or_eq_true s).symm with hs | hs
                · simp only [hs] at t0'
                  have HS := Lib.hid hs
                  clear hs
                  go_wp2
                  go_roundg (x.ports.length - (jj + 1))
                  case measure => omega
                  case rel => exact ⟨jj + 1, by omega, by omega, by go_num, aside (by have := BW2.out.alloc BW2.out.size; exact this _), aside (blk_alloc L2.out _), aside (blk_alloc X2.out _), aside (by rw [← HI2.out]; simp [HS.out])⟩
                · simp only [hs] at t0'
                  have HS := Lib.hid hs
                  clear hs
                  rcases (Bool.eq_false_or_eq_true s2).symm with hs2 | hs2
                  · simp only [hs2] at t1'
                    have HS2 := Lib.hid hs2
                    clear hs2
                    go_wp2
                    go_roundg (x.ports.length - (jj + 1))
                    case measure => omega
                    case rel => exact ⟨jj + 1, by omega, by omega, by go_num, aside (by have := BW2.out.alloc BW2.out.size; exact this _), aside (blk_alloc L2.out _), aside (blk_alloc X2.out _), aside (by rw [← HI2.out]; simp [HS2.out])⟩
                  · simp only [hs2] at t1'
                    have HS2 := Lib.hid hs2
                    clear hs2
                    by_cases e2 : z.seg = u
                    · have e2b : (z.seg == u) = true := by simp [e2]
                      have E2 := Lib.hid e2
                      clear e2
                      by_cases e3 : z2.seg = v
                      · have e3b : (z2.seg == v) = true := by simp [e3]
                        have E3 := Lib.hid e3
                        clear e3
                        have H1 := Lib.hid (show leadsIn x.ports y u v = true from by rw [← HR2.out, ← HI2.out]; simp [e1, HU.out, HU2.out, HS.out, HS2.out, E2.out, E3.out])
                        go_wp2
                        go_ret
                        exact ⟨ret_bool H1.out.symm, by have := BW2.out.alloc BW2.out.size; exact this _⟩
                      · have e3b : (z2.seg == v) = false := by simp [e3]
                        have E3 := Lib.hid e3
                        clear e3
                        go_wp2
                        go_roundg (x.ports.length - (jj + 1))
                        case measure => omega
                        case rel => exact ⟨jj + 1, by omega, by omega, by go_num, aside (by have := BW2.out.alloc BW2.out.size; exact this _), aside (blk_alloc L2.out _), aside (blk_alloc X2.out _), aside (by rw [← HI2.out]; simp [E3.out])⟩
                    · have e2b : (z.seg == u) = false := by simp [e2]
                      have E2 := Lib.hid e2
                      clear e2
                      go_wp2
                      go_roundg (x.ports.length - (jj + 1))
                      case measure => omega
                      case rel => exact ⟨jj + 1, by omega, by omega, by go_num, aside (by have := BW2.out.alloc BW2.out.size; exact this _), aside (blk_alloc L2.out _), aside (blk_alloc X2.out _), aside (by rw [← HI2.out]; simp [E2.out])⟩
        · have hlz2 : ¬ (jj : Int) < (x.ports.length : Int) := by omega
          obtain rfl : jj = x.ports.length := by omega
          have H1 := Lib.hid (show leadsRow x.ports y u v kk = false from by rw [← HI.out, range_end])
          go_wp2
          go_roundg (x.ports.length - (kk + 1))
          case measure => omega
          case rel => exact ⟨kk + 1, by omega, by omega, by go_num, BW2, L2, aside (by rw [← HR2.out, H1.out]; simp)⟩
    · have hlz : ¬ (kk : Int) < (x.ports.length : Int) := by omega
      obtain rfl : kk = x.ports.length := by omega
      have H1 := Lib.hid (show leadsIn x.ports y u v = false from by rw [← HR.out, range_end])
      go_wp2
      go_ret
      exact ⟨ret_bool H1.out.symm, BW.out⟩
end Go.Proofs.Ytjblfgagafmhcaa.Fw
namespace Go.Proofs.Ytjblfgagafmhcaa.K
open Go.RowKit Go.Proofs.YtjblfgagafmhcaaW.PrintWords Go.Proofs.YtjblfgagafmhcaaW.PrintLast Go.Proofs.YtjblfgagafmhcaaW.PrintMore
attribute [local go_sem] max2_int min2_int max_two min_two max_three min_three max_four min_four   -- for this text's walks alone
set_option linter.unusedVariables false
set_option linter.unusedSimpArgs false
noncomputable section
open Classical in
noncomputable def footwayref17_leads.f (a0_0 : Int) (l0_1 : List (S64)) (l0_2 : List (S91)) (l1 : List (List Bool)) (a2 : Int) (a3 : Int) (a4 : Int) : Option (Bool) :=
 match l0_1[a2.toNat]?, l1[a2.toNat]? with
 | some p, some o => if 0 ≤ a2 ∧ o.length = p.f1.length ∧ ∀ x ∈ l0_1, Fw.okPlan x then some (Fw.leadsIn p.f1 o a3 a4) else none
 | _, _ => none
set_option maxHeartbeats 1000000 in
set_option maxRecDepth 100000 in
theorem footwayref17_leads.calls (a0_0 : Int) (A0_1 : Option Addr) (c0_1 : Nat) (l0_1 : List (S64)) (A0_2 : Option Addr) (c0_2 : Nat) (l0_2 : List (S91)) (A1 : Option Addr) (c1 : Nat) (l1 : List (List Bool)) (a2 : Int) (a3 : Int) (a4 : Int) (r : Bool) (w : World) (hr0_1 : Kd.C k64 w A0_1 l0_1.length l0_1) (hc0_1 : l0_1.length ≤ c0_1) (hr0_2 : Kd.C k91 w A0_2 l0_2.length l0_2) (hc0_2 : l0_2.length ≤ c0_2) (hr1 : Kd.C (Kd.slice 4 Kd.bool) w A1 l1.length l1) (hc1 : l1.length ≤ c1) (h : footwayref17_leads.f a0_0 l0_1 l0_2 l1 a2 a3 a4 = some r) :
  Calls Try.prog 152 #[.agg #[.int .i64 a0_0, .slice A0_1 l0_1.length c0_1, .slice A0_2 l0_2.length c0_2], .slice A1 l1.length c1, .int .i64 a2, .int .i64 a3, .int .i64 a4] w fun e w' => e = .returned (.bool r) ∧ Below w.heap.size w w' := by
 unfold footwayref17_leads.f at h
 split at h
 ·rename_i p o hp ho
  split at h
  ·rename_i ok
   obtain rfl := Option.some.inj h
   obtain ⟨b, rfl⟩ := Int.eq_ofNat_of_zero_le ok.1
   exact Fw.leads_any ⟨a0_0, l0_1, l0_2⟩ A0_1 A0_2 A1 c0_1 c0_2 c1 l1 b a3 a4 w (Fw.slPlan hr0_1 hc0_1 ok.2.2) (Fw.slBools hr1 hc1) p o hp ho ok.2.1
  ·cases h
 ·cases h
end
end Go.Proofs.Ytjblfgagafmhcaa.K
