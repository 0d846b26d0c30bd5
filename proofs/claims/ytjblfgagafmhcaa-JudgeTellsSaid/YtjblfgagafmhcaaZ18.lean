/- Part 18 of the proof of one statement: what is written for it by hand and by a program of this seat's, over the given program's form. Conditions: none. -/
import Derived.Test.YtjblfgagafmhcaaZ11
import Derived.Test.YtjblfgagafmhcaaZ12
import Derived.Test.YtjblfgagafmhcaaZ13
import Derived.Test.YtjblfgagafmhcaaZ15
import Derived.Test.YtjblfgagafmhcaaZ17
set_option linter.unusedVariables false
set_option linter.unusedSimpArgs false
namespace Go.Proofs.Ytjblfgagafmhcaa.Fw
open Go.RowKit
open Go.Proofs.YtjblfgagafmhcaaW.PrintWords (rd Ev Ev.step Ev.now Ev.bind Ev.congr Ev.rounds)
theorem rd_get {l : List Int} {s : Nat} {x : Int} (h : l[s]? = some x) : rd l (s : Int) = x := by
  show l.getD s 0 = x
  rw [List.getD_eq_getElem?_getD, h]; rfl
theorem rdC_get {l : List Copy} {s : Nat} {x : Copy} (h : l[s]? = some x) : K.rd_T80 l (s : Int) = x := by
  show l.getD s _ = x
  rw [List.getD_eq_getElem?_getD, h]; rfl
theorem rdH_get {l : List Host} {s : Nat} {x : Host} (h : l[s]? = some x) : K.rd_T91 l (s : Int) = x := by
  show l.getD s _ = x
  rw [List.getD_eq_getElem?_getD, h]; rfl
theorem rdP_get {l : List Plan} {s : Nat} {x : Plan} (h : l[s]? = some x) : K.rd_T64 l (s : Int) = x := by
  show l.getD s _ = x
  rw [List.getD_eq_getElem?_getD, h]; rfl
theorem rdL_get {l : List Link} {s : Nat} {x : Link} (h : l[s]? = some x) : K.rd_T66 l (s : Int) = x := by
  show l.getD s _ = x
  rw [List.getD_eq_getElem?_getD, h]; rfl
theorem wrap_succ {s : Nat} (h : s < 1000000000) : wrap64 ((s : Int) + 1) = ((s + 1 : Nat) : Int) := by unfold wrap64; omega
theorem get_lt {α : Type} {l : List α} {s : Nat} (h : s < l.length) : ∃ x, l[s]? = some x := ⟨_, List.getElem?_eq_getElem h⟩
theorem has_l0 (who : Int) (l : List Int) (hl : l.length ≤ 1000000) : ∀ (d s : Nat), s + d = l.length → Ev (fun k => K.footwayref06_Has.l0 k who l (l.length : Int) (s : Int)) ((l.drop s).any fun x => decide (x = who))
  | 0, s, h => by
    refine Ev.step (f := fun _ => some ((l.drop s).any fun x => decide (x = who))) (fun k => ?_) (Ev.now _)
    simp only [K.footwayref06_Has.l0]
    rw [if_neg (by omega), List.drop_of_length_le (by omega)]; rfl
  | d + 1, s, h => by
    obtain ⟨x, hx⟩ := get_lt (l := l) (s := s) (by omega)
    rw [drop_of_get hx, List.any_cons]
    by_cases e : x = who
    · refine Ev.step (f := fun _ => some true) (fun k => ?_) (by rw [show (decide (x = who) || _) = true from by simp [e]]; exact Ev.now _)
      simp only [K.footwayref06_Has.l0]
      rw [if_pos (by omega), if_pos (by omega), if_pos (by omega), rd_get hx, if_pos e]
    · refine Ev.step (f := fun k => K.footwayref06_Has.l0 k who l (l.length : Int) ((s + 1 : Nat) : Int)) (fun k => ?_) (by rw [show decide (x = who) = false from by simp [e], Bool.false_or]; exact has_l0 who l hl d (s + 1) (by omega))
      simp only [K.footwayref06_Has.l0]
      rw [if_pos (by omega), if_pos (by omega), if_pos (by omega), rd_get hx, if_neg e, wrap_succ (by omega)]
theorem has_ev (l : List Int) (who : Int) (hl : l.length ≤ 1000000) : Ev (fun k => K.footwayref06_Has.f k l who) (l.any fun x => decide (x = who)) := has_l0 who l hl l.length 0 (by omega)
theorem same_l0 (a b : List Int) (hl : a.length ≤ 1000000) (he : a.length = b.length) : ∀ (d s : Nat), s + d = a.length → Ev (fun k => K.footwayref06_Same.l0 k a b (a.length : Int) (s : Int)) (sameL (a.drop s) (b.drop s))
  | 0, s, h => by
    refine Ev.step (f := fun _ => some (sameL (a.drop s) (b.drop s))) (fun k => ?_) (Ev.now _)
    simp only [K.footwayref06_Same.l0]
    rw [if_neg (by omega), List.drop_of_length_le (by omega)]; simp [sameL]
  | d + 1, s, h => by
    obtain ⟨x, hx⟩ := get_lt (l := a) (s := s) (by omega)
    obtain ⟨y, hy⟩ := get_lt (l := b) (s := s) (by omega)
    rw [drop_of_get hx, drop_of_get hy, sameL]
    by_cases e : x = y
    · refine Ev.step (f := fun k => K.footwayref06_Same.l0 k a b (a.length : Int) ((s + 1 : Nat) : Int)) (fun k => ?_) (by rw [show decide (x = y) = true from by simp [e], Bool.true_and]; exact same_l0 a b hl he d (s + 1) (by omega))
      simp only [K.footwayref06_Same.l0]
      rw [if_pos (by omega), if_pos (by omega), if_pos (by omega), if_pos (by omega), rd_get hx, rd_get hy, if_pos e, wrap_succ (by omega)]
    · refine Ev.step (f := fun _ => some false) (fun k => ?_) (by rw [show decide (x = y) = false from by simp [e], Bool.false_and]; exact Ev.now _)
      simp only [K.footwayref06_Same.l0]
      rw [if_pos (by omega), if_pos (by omega), if_pos (by omega), if_pos (by omega), rd_get hx, rd_get hy, if_neg e]
theorem same_ev (a b : List Int) (hl : a.length ≤ 1000000) : Ev (fun k => K.footwayref06_Same.f k a b) (decide (a = b)) := by
  by_cases he : a.length = b.length
  · have := same_l0 a b hl he a.length 0 (by omega)
    rw [List.drop_zero, List.drop_zero] at this
    rw [← same_eq, show decide (a.length = b.length) = true from by simp [he], Bool.true_and]
    refine Ev.congr (fun k => ?_) this
    unfold K.footwayref06_Same.f
    rw [if_pos (by omega)]; rfl
  · rw [show decide (a = b) = false from by simp; intro e; exact he (by rw [e])]
    refine Ev.congr (f := fun _ => some false) (fun k => ?_) (Ev.now _)
    unfold K.footwayref06_Same.f
    rw [if_neg (by omega)]
theorem same_self (a : List Int) (hl : a.length ≤ 1000000) : Ev (fun k => K.footwayref06_Same.f k a a) true := by
  have := same_ev a a hl
  rwa [decide_eq_true rfl] at this
theorem toList_inj {a b : ByteArray} : a.toList = b.toList ↔ a = b := by
  rw [ByteArray.toList_eq, ByteArray.toList_eq]
  constructor
  · intro e
    cases a; cases b
    simp at e
    rw [e]
  · intro e; rw [e]
theorem countC_cons (c : Copy) (cs : List Copy) (k : Key) : countC (c :: cs) k = (if keyC c = k then 1 else 0) + countC cs k := by
  simp [countC, List.count_cons]; omega
theorem where_l1 (l : List Copy) (raw : ByteArray) (segs : Int) (acc : List Int) (s : Nat) (r : List Int) (hl : l.length ≤ 1000000) (ha : acc.length ≤ 8) (hs : s ≤ 8)
    (hr : Ev (fun k => K.footwayref20_Where.l0 k l raw segs (acc ++ [((countC l ⟨(s : Int), raw⟩ : Nat) : Int)]) ((s + 1 : Nat) : Int)) r) :
    ∀ (d j cnt : Nat), j + d = l.length → cnt + countC (l.drop j) ⟨(s : Int), raw⟩ = countC l ⟨(s : Int), raw⟩ → Ev (fun k => K.footwayref20_Where.l1 k l raw segs acc (s : Int) (cnt : Int) l (l.length : Int) (j : Int)) r
  | 0, j, cnt, h, hc => by
    refine Ev.step (fun k => ?_) hr
    simp only [K.footwayref20_Where.l1]
    rw [if_neg (by omega), if_pos (by omega), wrap_succ (by omega)]
    rw [List.drop_of_length_le (by omega)] at hc
    rw [show cnt = countC l ⟨(s : Int), raw⟩ from by simpa [countC] using hc]
  | d + 1, j, cnt, h, hc => by
    obtain ⟨x, hx⟩ := get_lt (l := l) (s := j) (by omega)
    rw [drop_of_get hx, countC_cons] at hc
    have hle := countC_le l ⟨(s : Int), raw⟩
    by_cases e1 : x.seg = (s : Int)
    · by_cases e2 : x.raw = raw
      · rw [if_pos (by simp [keyC, e1, e2])] at hc
        refine Ev.step (f := fun k => K.footwayref20_Where.l1 k l raw segs acc (s : Int) ((cnt + 1 : Nat) : Int) l (l.length : Int) ((j + 1 : Nat) : Int)) (fun k => ?_) (where_l1 l raw segs acc s r hl ha hs hr d (j + 1) (cnt + 1) (by omega) (by omega))
        simp only [K.footwayref20_Where.l1]
        rw [if_pos (by omega), if_pos (by omega), if_pos (by omega), rdC_get hx, if_pos e1, if_pos (toList_inj.2 e2), wrap_succ (by omega), wrap_succ (by omega)]
      · rw [if_neg (by simp [keyC, e2])] at hc
        refine Ev.step (f := fun k => K.footwayref20_Where.l1 k l raw segs acc (s : Int) (cnt : Int) l (l.length : Int) ((j + 1 : Nat) : Int)) (fun k => ?_) (where_l1 l raw segs acc s r hl ha hs hr d (j + 1) cnt (by omega) (by omega))
        simp only [K.footwayref20_Where.l1]
        rw [if_pos (by omega), if_pos (by omega), if_pos (by omega), rdC_get hx, if_pos e1, if_neg (fun q => e2 (toList_inj.1 q)), wrap_succ (by omega)]
    · rw [if_neg (by simp [keyC, e1])] at hc
      refine Ev.step (f := fun k => K.footwayref20_Where.l1 k l raw segs acc (s : Int) (cnt : Int) l (l.length : Int) ((j + 1 : Nat) : Int)) (fun k => ?_) (where_l1 l raw segs acc s r hl ha hs hr d (j + 1) cnt (by omega) (by omega))
      simp only [K.footwayref20_Where.l1]
      rw [if_pos (by omega), if_pos (by omega), if_pos (by omega), rdC_get hx, if_neg e1, wrap_succ (by omega)]
theorem where_l0 (l : List Copy) (raw : ByteArray) (n : Nat) (hl : l.length ≤ 1000000) (hn : n ≤ 8) : ∀ (d s : Nat), s + d = n → Ev (fun k => K.footwayref20_Where.l0 k l raw (n : Int) (whereL l raw s) (s : Int)) (whereL l raw n)
  | 0, s, h => by
    obtain rfl : s = n := by omega
    refine Ev.step (f := fun _ => some (whereL l raw s)) (fun k => ?_) (Ev.now _)
    simp only [K.footwayref20_Where.l0]
    rw [if_neg (by omega)]
  | d + 1, s, h => by
    have ih := where_l0 l raw n hl hn d (s + 1) (by omega)
    rw [show whereL l raw (s + 1) = whereL l raw s ++ [((countC l ⟨(s : Int), raw⟩ : Nat) : Int)] from by simp [whereL, List.range_succ]] at ih
    refine Ev.step (f := fun k => K.footwayref20_Where.l1 k l raw (n : Int) (whereL l raw s) (s : Int) ((0 : Nat) : Int) l (l.length : Int) ((0 : Nat) : Int)) (fun k => ?_) (where_l1 l raw n (whereL l raw s) s _ hl (by simp [whereL]; omega) (by omega) ih l.length 0 0 (by omega) (by simp))
    simp only [K.footwayref20_Where.l0]
    rw [if_pos (by omega)]
    rfl
theorem where_ev (l : List Copy) (raw : ByteArray) (segs : Int) (hl : l.length ≤ 1000000) (h1 : 1 ≤ segs) (h8 : segs ≤ 8) : Ev (fun k => K.footwayref20_Where.f k l raw segs) (whereL l raw segs.toNat) := by
  obtain ⟨n, rfl⟩ := Int.eq_ofNat_of_zero_le (show 0 ≤ segs by omega)
  exact where_l0 l raw n hl (by omega) n 0 (by omega)
theorem macClass_eq (a : Int) (h : isAddr a = true) : K.mac_Class.f a = some (classOf a, 0) := by
  have hh : 0 ≤ a ∧ a ≤ 281474976710655 := by simpa [isAddr] using h
  have e1 := andNot15_i64 a hh.1 (by omega)
  have e2 := and1_i64 (a / 1099511627776) (by omega) (by omega)
  unfold K.mac_Class.f K.mac_Right.f
  rw [if_pos (by omega), Option.bind_some, if_pos (by simp [hh.2]), e1, e2]
  by_cases hc : a - a % 16 = 1652522221568
  · rw [if_pos hc]; unfold classOf; rw [if_pos (by omega)]
  · rw [if_neg hc]; unfold classOf; rw [if_neg (by omega)]
theorem refClass_eq (a : Int) (h : isAddr a = true) : K.footwayref01_Class.f a = some (classOf a) := by
  have hh : 0 ≤ a ∧ a ≤ 281474976710655 := by simpa [isAddr] using h
  unfold K.footwayref01_Class.f classOf
  rw [Int.tdiv_eq_ediv_of_nonneg hh.1, Int.tdiv_eq_ediv_of_nonneg hh.1, show wrap64 (a / 16) = a / 16 from by unfold wrap64; omega, show wrap64 (a / 1099511627776) = a / 1099511627776 from by unfold wrap64; omega, Int.tmod_eq_emod_of_nonneg (by omega)]
  by_cases hc : a / 16 = 103282638848
  · rw [if_pos hc, if_pos hc]
  · rw [if_neg hc, if_neg hc]
    by_cases h1 : a / 1099511627776 % 2 = 1
    · rw [if_pos h1, h1]
    · rw [if_neg h1]; congr 1; omega
def hearsB (mac : Int) (raw : ByteArray) : Bool := decide ((parseF raw).2 = 0) && (!decide ((parseF raw).1.src = mac) && (decide ((parseF raw).1.dst = mac) || decide (classOf (parseF raw).1.dst = 1)))
theorem parse_dst {raw : ByteArray} (h : (parseF raw).2 = 0) : isAddr (parseF raw).1.dst = true := by
  unfold parseF at h ⊢
  split
  · rename_i h1; rw [if_pos h1] at h; cases h
  · rename_i h1
    rw [if_neg h1] at h
    split
    · rename_i h2; rw [if_pos h2] at h; cases h
    · rename_i h2
      rw [if_neg h2] at h
      split
      · rename_i h3
        simp only [frameOk, Bool.and_eq_true] at h3
        exact h3.1.1.1.2
      · rename_i h3; rw [if_neg h3] at h; cases h
theorem hears_eq (mac seg : Int) (raw : ByteArray) (hr : raw.size ≤ 9223372036854775807) : K.judge_hears.f mac seg raw = some (hearsB mac raw) := by
  unfold K.judge_hears.f K.frame_Parse.f
  rw [if_pos hr, Option.bind_some]
  simp only []
  unfold hearsB
  by_cases h0 : (parseF raw).2 = 0
  · rw [if_pos h0, macClass_eq _ (parse_dst h0)]
    by_cases h1 : (parseF raw).1.src = mac
    · rw [if_pos h1]; simp [h0, h1]
    · rw [if_neg h1, Option.bind_some]
      by_cases h2 : (parseF raw).1.dst = mac
      · rw [if_pos h2]; simp [h0, h1, h2]
      · rw [if_neg h2]; simp [h0, h1, h2]; rfl
  · rw [if_neg h0]; simp [h0]
theorem refHears_eq (mac seg a b c d : Int) (raw : ByteArray) (hr : raw.size ≤ 9223372036854775807) : K.footwayref20_hears.f mac seg a b c d raw = some (decide (b = seg) && hearsB mac raw) := by
  unfold K.footwayref20_hears.f K.footwayref02_Parse.f
  rw [if_pos hr, Option.bind_some]
  simp only []
  unfold hearsB
  by_cases h0 : (parseF raw).2 = 0
  · rw [if_pos h0, refClass_eq _ (parse_dst h0)]
    by_cases hb : b = seg
    · rw [if_pos hb]
      by_cases h1 : (parseF raw).1.src = mac
      · rw [if_pos h1]; simp [h0, h1]
      · rw [if_neg h1]
        by_cases h2 : (parseF raw).1.dst = mac
        · rw [if_pos h2]; simp [hb, h0, h1, h2]
        · rw [if_neg h2, Option.bind_some]; simp [hb, h0, h1, h2]; rfl
    · rw [if_neg hb]; simp [hb]
  · rw [if_neg h0]; simp [h0]
def hearsUp (h : Host) : List Copy → Nat → List Int
  | [], _ => []
  | c :: cs, j => if (decide (c.seg = h.seg) && hearsB h.mac c.raw) = true then (j : Int) :: hearsUp h cs (j + 1) else hearsUp h cs (j + 1)
theorem hearsUp_length (h : Host) : ∀ (cs : List Copy) (j : Nat), (hearsUp h cs j).length ≤ cs.length
  | [], j => by simp [hearsUp]
  | c :: cs, j => by
    have := hearsUp_length h cs (j + 1)
    rw [hearsUp]
    split <;> simp <;> omega
theorem hears_l0 (h : Host) (l : List Copy) (hl : l.length ≤ 1000000) (ok : ∀ x ∈ l, x.raw.size ≤ 9223372036854775807) : ∀ (d s : Nat) (acc : List Int), s + d = l.length → acc.length ≤ s → Ev (fun k => K.judge_Hears.l0 k acc l (l.length : Int) (s : Int) h.mac h.seg) (acc ++ hearsUp h (l.drop s) s, 0)
  | 0, s, acc, hd, _ => by
    refine Ev.step (f := fun _ => some (acc ++ hearsUp h (l.drop s) s, 0)) (fun k => ?_) (Ev.now _)
    simp only [K.judge_Hears.l0]
    rw [if_neg (by omega), List.drop_of_length_le (by omega), hearsUp, List.append_nil]
  | d + 1, s, acc, hd, ha => by
    obtain ⟨x, hx⟩ := get_lt (l := l) (s := s) (by omega)
    have hz := ok x (List.mem_of_getElem? hx)
    rw [drop_of_get hx, hearsUp]
    by_cases e1 : x.seg = h.seg
    · cases hb : hearsB h.mac x.raw
      · rw [if_neg (by simp)]
        refine Ev.step (f := fun k => K.judge_Hears.l0 k acc l (l.length : Int) ((s + 1 : Nat) : Int) h.mac h.seg) (fun k => ?_) (hears_l0 h l hl ok d (s + 1) acc (by omega) (by omega))
        simp only [K.judge_Hears.l0]
        rw [if_pos (by omega), if_pos (by omega), if_pos (by omega), rdC_get hx, if_pos e1, hears_eq _ _ _ hz, Option.bind_some, hb, if_neg (by decide), wrap_succ (by omega)]
      · rw [if_pos (by simp [e1])]
        have ih := hears_l0 h l hl ok d (s + 1) (acc ++ [(s : Int)]) (by omega) (by simp; omega)
        rw [List.append_assoc, List.singleton_append] at ih
        refine Ev.step (fun k => ?_) ih
        simp only [K.judge_Hears.l0]
        rw [if_pos (by omega), if_pos (by omega), if_pos (by omega), rdC_get hx, if_pos e1, hears_eq _ _ _ hz, Option.bind_some, hb, if_pos rfl, if_pos (by omega), wrap_succ (by omega)]
    · rw [if_neg (by simp [e1])]
      refine Ev.step (f := fun k => K.judge_Hears.l0 k acc l (l.length : Int) ((s + 1 : Nat) : Int) h.mac h.seg) (fun k => ?_) (hears_l0 h l hl ok d (s + 1) acc (by omega) (by omega))
      simp only [K.judge_Hears.l0]
      rw [if_pos (by omega), if_pos (by omega), if_pos (by omega), rdC_get hx, if_neg e1, wrap_succ (by omega)]
theorem refHears_l0 (a0 : Int) (l1 : List Plan) (l2 : List Host) (hn : Nat) (h : Host) (hh : l2[hn]? = some h) (l : List Copy) (hl : l.length ≤ 1000000) (ok : ∀ x ∈ l, x.raw.size ≤ 9223372036854775807) :
    ∀ (d s : Nat) (acc : List Int), s + d = l.length → acc.length ≤ s → Ev (fun k => K.footwayref20_Hears.l0 k (hn : Int) acc l (l.length : Int) (s : Int) a0 l1 l2) (acc ++ hearsUp h (l.drop s) s)
  | 0, s, acc, hd, _ => by
    refine Ev.step (f := fun _ => some (acc ++ hearsUp h (l.drop s) s)) (fun k => ?_) (Ev.now _)
    simp only [K.footwayref20_Hears.l0]
    rw [if_neg (by omega), List.drop_of_length_le (by omega), hearsUp, List.append_nil]
  | d + 1, s, acc, hd, ha => by
    obtain ⟨x, hx⟩ := get_lt (l := l) (s := s) (by omega)
    have hz := ok x (List.mem_of_getElem? hx)
    have hlt := (List.getElem?_eq_some_iff.1 hh).1
    rw [drop_of_get hx, hearsUp]
    by_cases e1 : (decide (x.seg = h.seg) && hearsB h.mac x.raw) = true
    · rw [if_pos e1]
      have ih := refHears_l0 a0 l1 l2 hn h hh l hl ok d (s + 1) (acc ++ [(s : Int)]) (by omega) (by simp; omega)
      rw [List.append_assoc, List.singleton_append] at ih
      refine Ev.step (fun k => ?_) ih
      simp only [K.footwayref20_Hears.l0]
      rw [if_pos (by omega), if_pos (by omega), if_pos (by omega), if_pos (by omega), if_pos (by omega), rdC_get hx, rdH_get hh, refHears_eq _ _ _ _ _ _ _ hz, Option.bind_some, if_pos e1, if_pos (by omega), wrap_succ (by omega)]
    · rw [if_neg e1]
      refine Ev.step (f := fun k => K.footwayref20_Hears.l0 k (hn : Int) acc l (l.length : Int) ((s + 1 : Nat) : Int) a0 l1 l2) (fun k => ?_) (refHears_l0 a0 l1 l2 hn h hh l hl ok d (s + 1) acc (by omega) (by omega))
      simp only [K.footwayref20_Hears.l0]
      rw [if_pos (by omega), if_pos (by omega), if_pos (by omega), if_pos (by omega), if_pos (by omega), rdC_get hx, rdH_get hh, refHears_eq _ _ _ _ _ _ _ hz, Option.bind_some, if_neg e1, wrap_succ (by omega)]
end Go.Proofs.Ytjblfgagafmhcaa.Fw
