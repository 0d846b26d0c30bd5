/- Part 25 of the proof of one statement: what is written for it by hand and by a program of this seat's, over the given program's form. Conditions: none. -/
import Derived.Test.YtjblfgagafmhcaaZ11
import Derived.Test.YtjblfgagafmhcaaZ24
import Derived.Test.YtjblfgagafmhcaaZ7
import Derived.Laws.DeepStrings4
set_option linter.unusedVariables false
set_option linter.unusedSimpArgs false
namespace Go.Proofs.Ytjblfgagafmhcaa.Fw
open Go.RowKit
inductive Rch (T : Nat → Nat → Prop) (s0 : Nat) : Nat → Prop
  | base : Rch T s0 s0
  | step {s t : Nat} : Rch T s0 s → T s t → Rch T s0 t
theorem Rch.sub {T : Nat → Nat → Prop} {s0 : Nat} {C : Nat → Prop} (h0 : C s0) (hc : ∀ s t, C s → T s t → C t) : ∀ {t : Nat}, Rch T s0 t → C t
  | _, .base => h0
  | _, .step h e => hc _ _ (h.sub h0 hc) e
theorem Rch.same {T T' : Nat → Nat → Prop} {s0 : Nat} (h : ∀ s t, s ≠ t → T s t → T' s t) : ∀ {t : Nat}, Rch T s0 t → Rch T' s0 t
  | _, .base => .base
  | t, .step (s := s) hs e => by
    by_cases q : s = t
    · subst q; exact hs.same h
    · exact .step (hs.same h) (h s t q e)
theorem openSegs_iff {t : Int} : ∀ {xs : List Link} {rs : List Bool}, t ∈ openSegs xs rs ↔ ∃ (i : Nat) (x : Link), xs[i]? = some x ∧ x.up = true ∧ rs[i]? = some true ∧ x.seg = t
  | [], rs => by simp [openSegs]
  | x :: xs, [] => by simp [openSegs]
  | x :: xs, r :: rs => by
    have ih := openSegs_iff (t := t) (xs := xs) (rs := rs)
    rw [openSegs]
    constructor
    · intro h
      split at h
      · rename_i hu
        rw [Bool.and_eq_true] at hu
        rcases List.mem_cons.1 h with h | h
        · exact ⟨0, x, rfl, hu.1, by rw [← hu.2]; rfl, h.symm⟩
        · obtain ⟨i, y, h1, h2, h3, h4⟩ := ih.1 h
          exact ⟨i + 1, y, by simpa using h1, h2, by simpa using h3, h4⟩
      · obtain ⟨i, y, h1, h2, h3, h4⟩ := ih.1 h
        exact ⟨i + 1, y, by simpa using h1, h2, by simpa using h3, h4⟩
    · rintro ⟨i, y, h1, h2, h3, h4⟩
      cases i with
      | zero =>
        cases h1
        have h3' : r = true := by simpa using h3
        rw [if_pos (by rw [h2, h3']; rfl), h4]
        exact List.mem_cons_self
      | succ i =>
        have := ih.2 ⟨i, y, by simpa using h1, h2, by simpa using h3, h4⟩
        split
        · exact List.mem_cons_of_mem _ this
        · exact this
theorem leadsIn_iff {ps : List Link} {os : List Bool} {u v : Int} : leadsIn ps os u v = true ↔ ∃ (i k : Nat) (x y : Link), i ≠ k ∧ ps[i]? = some x ∧ ps[k]? = some y ∧ x.up = true ∧ x.seg = u ∧ y.up = true ∧ y.seg = v ∧ os[i]? = some true ∧ os[k]? = some true := by
  simp only [leadsIn, leadsRow, List.any_eq_true, List.mem_range]
  constructor
  · rintro ⟨i, hi, k, hk, h⟩
    simp only [leadsAt, Bool.and_eq_true, decide_eq_true_eq] at h
    obtain ⟨h1, h2, h3, h4, h5⟩ := h
    rw [List.getElem?_eq_getElem hi] at h2
    rw [List.getElem?_eq_getElem hk] at h3
    simp only [Option.map_some, Option.getD_some, Bool.and_eq_true, decide_eq_true_eq] at h2 h3
    have g : ∀ j : Nat, os[j]?.getD false = true → os[j]? = some true := fun j hj => by
      cases e : os[j]? with
      | none => rw [e] at hj; cases hj
      | some b => rw [e] at hj; simp at hj; rw [hj]
    exact ⟨i, k, _, _, h1, List.getElem?_eq_getElem hi, List.getElem?_eq_getElem hk, h2.1, h2.2, h3.1, h3.2, g i h4, g k h5⟩
  · rintro ⟨i, k, x, y, h1, h2, h3, h4, h5, h6, h7, h8, h9⟩
    refine ⟨i, (List.getElem?_eq_some_iff.1 h2).1, k, (List.getElem?_eq_some_iff.1 h3).1, ?_⟩
    simp only [leadsAt, h2, h3, h8, h9, Option.map_some, Option.getD_some, Bool.and_eq_true, decide_eq_true_eq]
    exact ⟨h1, ⟨h4, h5⟩, ⟨h6, h7⟩, trivial, trivial⟩
theorem allSegs_iff {r : List Int} : ∀ {ps : List Plan} {rs : List (List Bool)}, r ∈ allSegs ps rs ↔ ∃ (b : Nat) (p : Plan) (o : List Bool), ps[b]? = some p ∧ rs[b]? = some o ∧ r = openSegs p.ports o
  | [], rs => by simp [allSegs]
  | p :: ps, [] => by simp [allSegs]
  | p :: ps, o :: rs => by
    have ih := allSegs_iff (r := r) (ps := ps) (rs := rs)
    rw [allSegs, List.mem_cons]
    constructor
    · rintro (rfl | h)
      · exact ⟨0, p, o, rfl, rfl, rfl⟩
      · obtain ⟨b, q, s, h1, h2, h3⟩ := ih.1 h
        exact ⟨b + 1, q, s, by simpa using h1, by simpa using h2, h3⟩
    · rintro ⟨b, q, s, h1, h2, h3⟩
      cases b with
      | zero => cases h1; cases h2; exact .inl h3
      | succ b => exact .inr (ih.2 ⟨b, q, s, by simpa using h1, by simpa using h2, h3⟩)
def Joined (l : Lan) (op : List (List Bool)) (s t : Nat) : Prop := ∃ r ∈ allSegs l.plans op, (s : Int) ∈ r ∧ (t : Int) ∈ r
theorem nextB_joined {l : Lan} {op : List (List Bool)} {s t : Nat} : nextB l op s t = true → Joined l op s t := fun h => by
  simp only [nextB, List.any_eq_true, List.mem_range] at h
  obtain ⟨b, hb, h⟩ := h
  unfold leadsB at h
  split at h
  · rename_i p o hp ho
    obtain ⟨i, k, x, y, h1, h2, h3, h4, h5, h6, h7, h8, h9⟩ := leadsIn_iff.1 h
    exact ⟨_, allSegs_iff.2 ⟨b, p, o, hp, ho, rfl⟩, openSegs_iff.2 ⟨i, x, h2, h4, h8, h5⟩, openSegs_iff.2 ⟨k, y, h3, h6, h9, h7⟩⟩
  · cases h
theorem joined_nextB {l : Lan} {op : List (List Bool)} {s t : Nat} (hne : s ≠ t) : Joined l op s t → nextB l op s t = true := by
  rintro ⟨r, hr, hs, ht⟩
  obtain ⟨b, p, o, hp, ho, rfl⟩ := allSegs_iff.1 hr
  obtain ⟨i, x, h2, h4, h8, h5⟩ := openSegs_iff.1 hs
  obtain ⟨k, y, h3, h6, h9, h7⟩ := openSegs_iff.1 ht
  simp only [nextB, List.any_eq_true, List.mem_range]
  refine ⟨b, (List.getElem?_eq_some_iff.1 hp).1, ?_⟩
  unfold leadsB
  rw [hp, ho]
  refine leadsIn_iff.2 ⟨i, k, x, y, fun e => ?_, h2, h3, h4, h5, h6, h7, h8, h9⟩
  subst e
  rw [h2] at h3
  cases h3
  rw [h5] at h7
  exact hne (by exact_mod_cast h7)
theorem catOf_iff {seg t : Int} : ∀ {rs : List (List Int)}, t ∈ catOf seg rs ↔ ∃ r ∈ rs, seg ∈ r ∧ t ∈ r
  | [] => by simp [catOf]
  | r :: rs => by
    have ih := catOf_iff (seg := seg) (t := t) (rs := rs)
    rw [catOf, List.mem_append, ih]
    constructor
    · rintro (h | ⟨q, h1, h2⟩)
      · split at h
        · rename_i hany
          obtain ⟨y, hy, e⟩ := List.any_eq_true.1 hany
          rw [decide_eq_true_eq] at e
          subst e
          exact ⟨r, List.mem_cons_self, hy, h⟩
        · simp at h
      · exact ⟨q, List.mem_cons_of_mem _ h1, h2⟩
    · rintro ⟨q, h1, h2, h3⟩
      rcases List.mem_cons.1 h1 with rfl | h1
      · exact .inl (by rw [if_pos (List.any_eq_true.2 ⟨seg, h2, by simp⟩)]; exact h3)
      · exact .inr ⟨q, h1, h2, h3⟩
theorem nextTo_iff {rows : List (List Int)} {seg t : Int} : t ∈ nextTo rows seg ↔ ∃ r ∈ rows, seg ∈ r ∧ t ∈ r := by
  unfold nextTo
  rw [compact_mem, List.mem_mergeSort, catOf_iff]
theorem getD_set {l : List Int} {j t : Nat} {x : Int} (hj : j < l.length) : (l.set j x).getD t 0 = if t = j then x else l.getD t 0 := by
  rw [List.getD_eq_getElem?_getD, List.getD_eq_getElem?_getD, List.getElem?_set]
  by_cases e : j = t
  · subst e; simp [hj]
  · rw [if_neg e, if_neg (fun h => e h.symm)]
structure RelaxP (n : Nat) (ts out q out' q' : List Int) : Prop where
  keep : ∀ t, t < n → 0 ≤ out.getD t 0 → out'.getD t 0 = out.getD t 0
  all : ∀ t ∈ ts, 0 ≤ out'.getD t.toNat 0
  pre : ∀ (j : Nat) (x : Int), q[j]? = some x → q'[j]? = some x
  from_ : ∀ x ∈ q', x ∈ q ∨ x ∈ ts
  new : ∀ t, t < n → 0 ≤ out'.getD t 0 → 0 ≤ out.getD t 0 ∨ (t : Int) ∈ q'
  vis : (∀ x ∈ q, 0 ≤ out.getD x.toNat 0) → ∀ x ∈ q', 0 ≤ out'.getD x.toNat 0
theorem relax_props {n cur : Nat} (hc : cur < n) : ∀ (ts : List Int) {out q : List Int}, Inv n out q → (∀ t ∈ ts, 0 ≤ t ∧ t < n) → RelaxP n ts out q (relax cur ts out q).1 (relax cur ts out q).2
  | [], out, q, _, _ => ⟨fun _ _ _ => rfl, fun t ht => by simp at ht, fun _ _ h => h, fun x hx => .inl hx, fun t _ h => .inl h, fun h => h⟩
  | t :: ts, out, q, h, ht => by
    have h2 : ∀ u ∈ ts, 0 ≤ u ∧ u < n := fun u hu => ht u (List.mem_cons_of_mem _ hu)
    have ht0 := ht t List.mem_cons_self
    rw [relax]
    split
    · rename_i hneg
      have hi := h.step ht0 hc hneg
      have hl : t.toNat < out.length := by rw [h.len]; omega
      have hcv : -1 ≤ out.getD cur 0 := by
        have := h.vals (out.getD cur 0) (by rw [List.getD_eq_getElem?_getD, List.getElem?_eq_getElem (by rw [h.len]; exact hc)]; simp)
        exact this.1
      have P := relax_props hc ts hi h2
      have hset : (out.set t.toNat (out.getD cur 0 + 1)).getD t.toNat 0 = out.getD cur 0 + 1 := by rw [getD_set hl, if_pos rfl]
      have hk : ∀ u, u < n → 0 ≤ out.getD u 0 → (out.set t.toNat (out.getD cur 0 + 1)).getD u 0 = out.getD u 0 := fun u _ hu => by
        rw [getD_set hl, if_neg]
        intro e; subst e; omega
      refine ⟨fun u hu h0 => (P.keep u hu (by rw [hk u hu h0]; exact h0)).trans (hk u hu h0), fun u hu => ?_, fun j x hx => P.pre j x ?_, fun x hx => ?_, fun u hu h0 => ?_, fun hv => P.vis fun x hx => ?_⟩
      · rcases List.mem_cons.1 hu with rfl | hu
        · rw [P.keep u.toNat (by omega) (by rw [hset]; omega), hset]; omega
        · exact P.all u hu
      · rw [List.getElem?_append_left (List.getElem?_eq_some_iff.1 hx).1]; exact hx
      · rcases P.from_ x hx with hx | hx
        · rcases List.mem_append.1 hx with hx | hx
          · exact .inl hx
          · rw [List.mem_singleton.1 hx]; exact .inr List.mem_cons_self
        · exact .inr (List.mem_cons_of_mem _ hx)
      · rcases P.new u hu h0 with h1 | h1
        · rw [getD_set hl] at h1
          split at h1
          · rename_i e
            refine .inr ?_
            have : (q ++ [t])[q.length]? = some t := by simp
            have := List.mem_of_getElem? (P.pre q.length t this)
            rwa [show (u : Int) = t by omega]
          · exact .inl h1
        · exact .inr h1
      · rcases List.mem_append.1 hx with hx | hx
        · have hx0 := h.qs x hx
          rw [hk x.toNat (by omega) (hv x hx)]; exact hv x hx
        · rw [List.mem_singleton.1 hx, hset]; omega
    · rename_i hneg
      have P := relax_props hc ts h h2
      refine ⟨P.keep, fun u hu => ?_, P.pre, fun x hx => ?_, P.new, P.vis⟩
      · rcases List.mem_cons.1 hu with rfl | hu
        · rw [P.keep u.toNat (by omega) (by omega)]; omega
        · exact P.all u hu
      · rcases P.from_ x hx with hx | hx
        · exact .inl hx
        · exact .inr (List.mem_cons_of_mem _ hx)
structure BfsP (rows : List (List Int)) (n seg i : Nat) (out q : List Int) : Prop where
  inv : Inv n out q
  vis : ∀ x ∈ q, 0 ≤ out.getD x.toNat 0
  mem : ∀ t, t < n → 0 ≤ out.getD t 0 → (t : Int) ∈ q
  done : ∀ (j : Nat) (s : Int), j < i → q[j]? = some s → ∀ t ∈ nextTo rows s, 0 ≤ out.getD t.toNat 0
  sound : ∀ x ∈ q, Rch (fun s t => ∃ r ∈ rows, (s : Int) ∈ r ∧ (t : Int) ∈ r) seg x.toNat
  start : (seg : Int) ∈ q
theorem bfs_props {rows : List (List Int)} {n seg : Nat} (hin : ∀ r ∈ rows, ∀ x ∈ r, 0 ≤ x ∧ x < (n : Int)) : ∀ (f i : Nat) (out q : List Int), n ≤ f + i → BfsP rows n seg i out q → ∃ q', BfsP rows n seg q'.length (bfs rows f i out q) q'
  | 0, i, out, q, hf, P => by
    have := P.inv.sum
    exact ⟨q, P.inv, P.vis, P.mem, fun j s hj => P.done j s (by omega), P.sound, P.start⟩
  | f + 1, i, out, q, hf, P => by
    rw [bfs]
    split
    · rename_i hlt
      have hq := List.getElem?_eq_getElem hlt
      have hx0 := P.inv.qs q[i] (List.getElem_mem hlt)
      rw [show q.getD i 0 = q[i] from by rw [List.getD_eq_getElem?_getD, hq]; rfl]
      have hts : ∀ t ∈ nextTo rows q[i], 0 ≤ t ∧ t < (n : Int) := fun t ht => by
        obtain ⟨r, hr, _, h⟩ := nextTo_iff.1 ht
        exact hin r hr t h
      have hc : q[i].toNat < n := by omega
      have RP := relax_props hc (nextTo rows q[i]) P.inv hts
      have hI := P.inv.relax hc (nextTo rows q[i]) hts
      refine bfs_props hin f (i + 1) _ _ (by omega) ⟨hI, RP.vis P.vis, fun t ht h0 => ?_, fun j s hj hs t ht => ?_, fun x hx => ?_, ?_⟩
      · rcases RP.new t ht h0 with h | h
        · obtain ⟨j, hj, e⟩ := List.getElem_of_mem (P.mem t ht h)
          exact List.mem_of_getElem? (RP.pre j _ (by rw [← e]; exact List.getElem?_eq_getElem hj))
        · exact h
      · rcases Nat.lt_or_ge j i with h1 | h1
        · have hjq : j < q.length := by omega
          have hs' : q[j]? = some s := by
            have := RP.pre j q[j] (List.getElem?_eq_getElem hjq)
            rw [hs] at this
            rw [List.getElem?_eq_getElem hjq, ← this]
          have h3 := P.done j s h1 hs' t ht
          obtain ⟨r, hr, _, h⟩ := nextTo_iff.1 ht
          have h4 := hin r hr t h
          rw [RP.keep t.toNat (by omega) h3]; exact h3
        · obtain rfl : j = i := by omega
          have := RP.pre j q[j] hq
          rw [hs] at this
          have e : s = q[j] := Option.some.inj this
          subst e
          exact RP.all t ht
      · rcases RP.from_ x hx with h | h
        · exact P.sound x h
        · obtain ⟨r, hr, h1, h2⟩ := nextTo_iff.1 h
          have h4 := hin r hr x h2
          refine .step (P.sound q[i] (List.getElem_mem hlt)) ⟨r, hr, ?_, ?_⟩
          · rwa [show ((q[i].toNat : Nat) : Int) = q[i] by omega]
          · rwa [show ((x.toNat : Nat) : Int) = x by omega]
      · obtain ⟨j, hj, e⟩ := List.getElem_of_mem P.start
        exact List.mem_of_getElem? (RP.pre j _ (by rw [← e]; exact List.getElem?_eq_getElem hj))
    · exact ⟨q, P.inv, P.vis, P.mem, fun j s hj => P.done j s (by omega), P.sound, P.start⟩
theorem stepsL_iff {l : Lan} {op : List (List Bool)} (hm : mayOk l op = true) {seg t : Nat} (hs : (seg : Int) < l.segs) (ht : (t : Int) < l.segs) : 0 ≤ (stepsL l op seg).getD t 0 ↔ Rch (Joined l op) seg t := by
  have h := mayOk_of hm
  have g1 := h.segs1
  obtain ⟨n, hn⟩ := Int.eq_ofNat_of_zero_le (show 0 ≤ l.segs by omega)
  have hsn : seg < n := by omega
  have htn : t < n := by omega
  have hst : stepsL l op seg = bfs (allSegs l.plans op) n 0 ((List.replicate n (-1 : Int)).set seg 0) [(seg : Int)] := by
    unfold stepsL; rw [hn]; rfl
  have hin : ∀ r ∈ allSegs l.plans op, ∀ x ∈ r, 0 ≤ x ∧ x < (n : Int) := fun r hr x hx => by have := (h.segsIn r hr).2 x hx; omega
  have hg : ∀ j, ((List.replicate n (-1 : Int)).set seg 0).getD j 0 = if j = seg then 0 else (List.replicate n (-1 : Int)).getD j 0 := fun j => getD_set (by simpa using hsn)
  obtain ⟨q', P⟩ := bfs_props (rows := allSegs l.plans op) (n := n) (seg := seg) hin n 0 ((List.replicate n (-1 : Int)).set seg 0) [(seg : Int)] (by omega) ⟨Inv.start hsn, fun x hx => by rw [List.mem_singleton.1 hx, Int.toNat_natCast, hg, if_pos rfl]; omega, fun j hj h0 => by
    rw [hg] at h0
    split at h0
    · rename_i e; rw [e]; exact List.mem_singleton.2 rfl
    · rw [List.getD_eq_getElem?_getD, List.getElem?_replicate, if_pos hj] at h0
      simp at h0, fun j s hj => by omega, fun x hx => by rw [List.mem_singleton.1 hx, Int.toNat_natCast]; exact .base, List.mem_singleton.2 rfl⟩
  rw [hst]
  constructor
  · intro h0
    have := P.sound t (P.mem t htn h0)
    rwa [Int.toNat_natCast] at this
  · intro hr
    have key : ∀ {u : Nat}, Rch (Joined l op) seg u → u < n ∧ 0 ≤ (bfs (allSegs l.plans op) n 0 ((List.replicate n (-1 : Int)).set seg 0) [(seg : Int)]).getD u 0 := fun hu => hu.sub (C := fun u => u < n ∧ 0 ≤ (bfs (allSegs l.plans op) n 0 ((List.replicate n (-1 : Int)).set seg 0) [(seg : Int)]).getD u 0)
      ⟨hsn, by have := P.vis seg P.start; rwa [Int.toNat_natCast] at this⟩ (fun s u ⟨h1, h2⟩ ⟨r, hr, h3, h4⟩ => by
        have h5 := hin r hr u h4
        obtain ⟨j, hj, e⟩ := List.getElem_of_mem (P.mem s h1 h2)
        have := P.done j s hj (by rw [← e]; exact List.getElem?_eq_getElem hj) u (nextTo_iff.2 ⟨r, hr, h3, h4⟩)
        rw [Int.toNat_natCast] at this
        exact ⟨by omega, this⟩)
    exact (key hr).2
end Go.Proofs.Ytjblfgagafmhcaa.Fw
namespace Go.Proofs.Ytjblfgagafmhcaa.Fw
open Go.RowKit
structure Lv3 (E : Nat → Nat → Bool) (m : Int) (s n t : Nat) (o o' : List Int) : Prop where
  len : o'.length = n
  ch : ∀ j, j < n → o'.getD j 0 = o.getD j 0 ∨ (o.getD j 0 < 0 ∧ o'.getD j 0 = m ∧ o.getD s 0 = m - 1 ∧ E s j = true)
  all : o.getD s 0 = m - 1 → ∀ j, t ≤ j → j < n → E s j = true → 0 ≤ o'.getD j 0
theorem lv3 {E : Nat → Nat → Bool} {m : Int} {s n : Nat} (hm : 1 ≤ m) (hs : s < n) : ∀ (d t : Nat) (o : List Int), t + d = n → o.length = n → Lv3 E m s n t o (l3R E m s d t o)
  | 0, t, o, h, hl => ⟨hl, fun _ _ => .inl rfl, fun _ j h1 h2 => by omega⟩
  | d + 1, t, o, h, hl => by
    rw [l3R]
    split
    · rename_i hc
      obtain ⟨c1, c2, c3⟩ := hc
      have htl : t < o.length := by omega
      have hst : s ≠ t := fun e => by subst e; omega
      have ih := lv3 (E := E) (m := m) (s := s) (n := n) hm hs d (t + 1) (o.set t m) (by omega) (by rw [List.length_set]; exact hl)
      have hgs : (o.set t m).getD s 0 = o.getD s 0 := by rw [getD_set htl, if_neg hst]
      have hgt : (o.set t m).getD t 0 = m := by rw [getD_set htl, if_pos rfl]
      have hk : (l3R E m s d (t + 1) (o.set t m)).getD t 0 = m := by
        rcases ih.ch t (by omega) with h1 | ⟨h1, _⟩
        · rw [h1, hgt]
        · rw [hgt] at h1; omega
      refine ⟨ih.len, fun j hj => ?_, fun _ j h1 h2 h3 => ?_⟩
      · by_cases e : j = t
        · subst e; exact .inr ⟨c1, hk, c2, c3⟩
        · have hg : (o.set t m).getD j 0 = o.getD j 0 := by rw [getD_set htl, if_neg e]
          rcases ih.ch j hj with h1 | ⟨h1, h2, h3, h4⟩
          · exact .inl (h1.trans hg)
          · exact .inr ⟨by rw [← hg]; exact h1, h2, by rw [← hgs]; exact h3, h4⟩
      · by_cases e : j = t
        · subst e; rw [hk]; omega
        · exact ih.all (by rw [hgs]; exact c2) j (by omega) h2 h3
    · rename_i hc
      have ih := lv3 (E := E) (m := m) (s := s) (n := n) hm hs d (t + 1) o (by omega) hl
      refine ⟨ih.len, ih.ch, fun h0 j h1 h2 h3 => ?_⟩
      by_cases e : j = t
      · subst e
        have hj0 : ¬ o.getD j 0 < 0 := fun q => hc ⟨q, h0, h3⟩
        rcases ih.ch j h2 with h4 | ⟨h4, _⟩
        · rw [h4]; omega
        · exact absurd h4 hj0
      · exact ih.all h0 j (by omega) h2 h3
structure Lv2 (E : Nat → Nat → Bool) (m : Int) (n s : Nat) (o o' : List Int) : Prop where
  len : o'.length = n
  ch : ∀ j, j < n → o'.getD j 0 = o.getD j 0 ∨ (o.getD j 0 < 0 ∧ o'.getD j 0 = m ∧ ∃ s', s' < n ∧ o.getD s' 0 = m - 1 ∧ E s' j = true)
  all : ∀ s', s ≤ s' → s' < n → o.getD s' 0 = m - 1 → ∀ j, j < n → E s' j = true → 0 ≤ o'.getD j 0
theorem lv2 {E : Nat → Nat → Bool} {m : Int} {n : Nat} (hm : 1 ≤ m) : ∀ (d s : Nat) (o : List Int), s + d = n → o.length = n → Lv2 E m n s o (l2R E m n d s o)
  | 0, s, o, h, hl => ⟨hl, fun _ _ => .inl rfl, fun s' h1 h2 => by omega⟩
  | d + 1, s, o, h, hl => by
    rw [l2R]
    have P := lv3 (E := E) (m := m) (s := s) (n := n) hm (by omega) n 0 o (by omega) hl
    generalize l3R E m s n 0 o = o1 at P ⊢
    have ih := lv2 (E := E) (m := m) (n := n) hm d (s + 1) o1 (by omega) P.len
    have hback : ∀ s', s' < n → o1.getD s' 0 = m - 1 → o.getD s' 0 = m - 1 := fun s' h1 h2 => by
      rcases P.ch s' h1 with h3 | ⟨h3, h4, _⟩
      · rw [← h3]; exact h2
      · omega
    have hfwd : ∀ s', s' < n → o.getD s' 0 = m - 1 → o1.getD s' 0 = m - 1 := fun s' h1 h2 => by
      rcases P.ch s' h1 with h3 | ⟨h3, h4, _⟩
      · rw [h3]; exact h2
      · omega
    refine ⟨ih.len, fun j hj => ?_, fun s' h1 h2 h3 j h4 h5 => ?_⟩
    · rcases ih.ch j hj with h1 | ⟨h1, h2, s', h3, h4, h5⟩
      · rcases P.ch j hj with h6 | ⟨h6, h7, h8, h9⟩
        · exact .inl (h1.trans h6)
        · exact .inr ⟨h6, h1.trans h7, s, by omega, h8, h9⟩
      · rcases P.ch j hj with h6 | ⟨h6, h7, _⟩
        · exact .inr ⟨by rw [← h6]; exact h1, h2, s', h3, hback s' h3 h4, h5⟩
        · omega
    · by_cases e : s' = s
      · subst e
        have h6 := P.all h3 j (by omega) h4 h5
        rcases ih.ch j h4 with h7 | ⟨h7, _⟩
        · rw [h7]; exact h6
        · omega
      · exact ih.all s' (by omega) h2 (hfwd s' h2 h3) j h4 h5
theorem negs_le : ∀ (a b : List Int), a.length = b.length → (∀ j, j < a.length → a.getD j 0 < 0 → b.getD j 0 < 0) → negs a ≤ negs b
  | [], [], _, _ => Nat.le_refl _
  | x :: a, y :: b, hl, h => by
    have ih := negs_le a b (by simpa using hl) (fun j hj hx => by have := h (j + 1) (by simp; omega); simp at this hx ⊢; exact this hx)
    have h0 := h 0 (by simp)
    unfold negs at *
    simp only [List.countP_cons]
    simp at h0
    by_cases hx : x < 0
    · simp [hx, h0 hx]; exact ih
    · simp [hx]; omega
  | [], _ :: _, hl, _ => by simp at hl
  | _ :: _, [], hl, _ => by simp at hl
theorem negs_lt : ∀ (a b : List Int), a.length = b.length → (∀ j, j < a.length → a.getD j 0 < 0 → b.getD j 0 < 0) → (∃ j, j < a.length ∧ 0 ≤ a.getD j 0 ∧ b.getD j 0 < 0) → negs a < negs b
  | [], [], _, _, ⟨j, hj, _⟩ => by simp at hj
  | x :: a, y :: b, hl, h, ⟨j, hj, h1, h2⟩ => by
    have hs : ∀ j, j < a.length → a.getD j 0 < 0 → b.getD j 0 < 0 := fun j hj hx => by have := h (j + 1) (by simp; omega); simp at this hx ⊢; exact this hx
    have h0 := h 0 (by simp)
    simp at h0
    cases j with
    | zero =>
      simp at h1 h2
      have ih := negs_le a b (by simpa using hl) hs
      unfold negs at *
      simp only [List.countP_cons]
      have : ¬ x < 0 := by omega
      simp [this, h2]; omega
    | succ j =>
      have ih := negs_lt a b (by simpa using hl) hs ⟨j, by simpa using hj, by simpa using h1, by simpa using h2⟩
      unfold negs at *
      simp only [List.countP_cons]
      by_cases hx : x < 0
      · simp [hx, h0 hx]; omega
      · simp [hx]; omega
  | [], _ :: _, hl, _, _ => by simp at hl
  | _ :: _, [], hl, _, _ => by simp at hl
theorem negs_zero : ∀ (a : List Int), negs a = 0 → ∀ j, j < a.length → 0 ≤ a.getD j 0
  | [], _, j, hj => by simp at hj
  | x :: a, h, j, hj => by
    unfold negs at h
    simp only [List.countP_cons] at h
    have hx : ¬ x < 0 := fun q => by simp [q] at h
    cases j with
    | zero => simp; omega
    | succ j =>
      have := negs_zero a (by unfold negs; omega) j (by simpa using hj)
      simpa using this
structure LvP (E : Nat → Nat → Bool) (n seg m : Nat) (o : List Int) : Prop where
  len : o.length = n
  vals : ∀ j, j < n → -1 ≤ o.getD j 0 ∧ o.getD j 0 ≤ (m : Int) - 1
  closed : ∀ s, s < n → 0 ≤ o.getD s 0 → o.getD s 0 ≤ (m : Int) - 2 → ∀ j, j < n → E s j = true → 0 ≤ o.getD j 0
  sound : ∀ j, j < n → 0 ≤ o.getD j 0 → Rch (fun s t => E s t = true) seg j
  many : negs o + m ≤ n ∨ ∀ s, s < n → o.getD s 0 ≠ (m : Int) - 1
  start : 0 ≤ o.getD seg 0
theorem lv1 {E : Nat → Nat → Bool} {n seg : Nat} (hs : seg < n) : ∀ (d m : Nat) (o : List Int), 1 ≤ m → m + d = n → LvP E n seg m o → LvP E n seg n (l1R E n d m o)
  | 0, m, o, _, h, P => by
    obtain rfl : m = n := by omega
    exact P
  | d + 1, m, o, h1, h, P => by
    rw [l1R]
    have Q := lv2 (E := E) (m := (m : Int)) (n := n) (by omega) n 0 o (by omega) P.len
    generalize l2R E (m : Int) n n 0 o = o' at Q ⊢
    have kept : ∀ j, j < n → 0 ≤ o.getD j 0 → o'.getD j 0 = o.getD j 0 := fun j hj h0 => by
      rcases Q.ch j hj with h2 | ⟨h2, _⟩
      · exact h2
      · omega
    refine lv1 hs d (m + 1) o' (by omega) (by omega) ⟨Q.len, fun j hj => ?_, fun s hsn h0 h2 j hj he => ?_, fun j hj h0 => ?_, ?_, by rw [kept seg hs P.start]; exact P.start⟩
    · have := P.vals j hj
      rcases Q.ch j hj with h2 | ⟨h2, h3, _⟩
      · rw [h2]; push_cast; omega
      · rw [h3]; push_cast; omega
    · have hs0 : 0 ≤ o.getD s 0 ∧ o'.getD s 0 = o.getD s 0 := by
        rcases Q.ch s hsn with h3 | ⟨h3, h4, _⟩
        · exact ⟨by rw [← h3]; exact h0, h3⟩
        · push_cast at h2; omega
      push_cast at h2
      by_cases e : o.getD s 0 = (m : Int) - 1
      · exact Q.all s (by omega) hsn e j hj he
      · have := P.closed s hsn hs0.1 (by have := (P.vals s hsn).2; omega) j hj he
        rw [kept j hj this]; exact this
    · rcases Q.ch j hj with h2 | ⟨h2, h3, s', h4, h5, h6⟩
      · exact P.sound j hj (by rw [← h2]; exact h0)
      · exact .step (P.sound s' h4 (by omega)) h6
    · by_cases hex : ∃ s, s < n ∧ o'.getD s 0 = (m : Int)
      · obtain ⟨s, hsn, e⟩ := hex
        refine .inl ?_
        rcases Q.ch s hsn with h2 | ⟨h2, h3, s', h4, h5, h6⟩
        · have := (P.vals s hsn).2; omega
        · have hm : negs o + m ≤ n := by
            rcases P.many with h7 | h7
            · exact h7
            · exact absurd h5 (h7 s' h4)
          have hlt := negs_lt o' o (by rw [Q.len, P.len]) (fun j hj hneg => by
            rw [Q.len] at hj
            rcases Q.ch j hj with h8 | ⟨h8, _⟩
            · rw [← h8]; exact hneg
            · exact h8) ⟨s, by rw [Q.len]; exact hsn, by omega, h2⟩
          omega
      · refine .inr fun s hsn e => hex ⟨s, hsn, ?_⟩
        push_cast at e; omega
theorem refSteps_iff {l : Lan} {op : List (List Bool)} (hm : mayOk l op = true) {seg t : Nat} (hs : (seg : Int) < l.segs) (ht : (t : Int) < l.segs) : 0 ≤ (refSteps l op seg).getD t 0 ↔ Rch (Joined l op) seg t := by
  have h := mayOk_of hm
  have g1 := h.segs1
  obtain ⟨n, hn⟩ := Int.eq_ofNat_of_zero_le (show 0 ≤ l.segs by omega)
  have hsn : seg < n := by omega
  have htn : t < n := by omega
  have hst : refSteps l op seg = l1R (fun s t => nextB l op s t) n (n - 1) 1 ((List.replicate n (-1 : Int)).set seg 0) := by
    unfold refSteps; rw [hn]; rfl
  have hg : ∀ j, ((List.replicate n (-1 : Int)).set seg 0).getD j 0 = if j = seg then 0 else (List.replicate n (-1 : Int)).getD j 0 := fun j => getD_set (by simpa using hsn)
  have hr : ∀ j, j < n → (List.replicate n (-1 : Int)).getD j 0 = -1 := fun j hj => by rw [List.getD_eq_getElem?_getD, List.getElem?_replicate, if_pos hj]; rfl
  have P0 : LvP (fun s t => nextB l op s t) n seg 1 ((List.replicate n (-1 : Int)).set seg 0) := by
    refine ⟨by simp, fun j hj => ?_, fun s hsn h0 h2 => by omega, fun j hj h0 => ?_, .inl ?_, by rw [hg, if_pos rfl]; omega⟩
    · rw [hg]
      split
      · omega
      · rw [hr j hj]; omega
    · rw [hg] at h0
      split at h0
      · rename_i e; rw [e]; exact .base
      · rw [hr j hj] at h0; omega
    · have := (Inv.start (n := n) (seg := seg) hsn).sum
      simp only [List.length_singleton] at this
      omega
  have P := lv1 hsn (n - 1) 1 _ (by omega) (by omega) P0
  rw [hst]
  generalize l1R (fun s t => nextB l op s t) n (n - 1) 1 ((List.replicate n (-1 : Int)).set seg 0) = o at P ⊢
  have toJ : ∀ {u : Nat}, Rch (fun s t => nextB l op s t = true) seg u → Rch (Joined l op) seg u := fun hu => hu.same fun s t _ e => nextB_joined e
  have toE : ∀ {u : Nat}, Rch (Joined l op) seg u → Rch (fun s t => nextB l op s t = true) seg u := fun hu => hu.same fun s t hne e => joined_nextB hne e
  have inn : ∀ s t : Nat, nextB l op s t = true → t < n := fun s t he => by
    obtain ⟨r, hr, _, h2⟩ := nextB_joined he
    have := (h.segsIn r hr).2 t h2
    omega
  constructor
  · intro h0
    exact toJ (P.sound t htn h0)
  · intro hR
    rcases Nat.eq_zero_or_pos (negs o) with h0 | h0
    · exact negs_zero o h0 t (by rw [P.len]; exact htn)
    · have hno : ∀ s, s < n → o.getD s 0 ≠ (n : Int) - 1 := by
        rcases P.many with h1 | h1
        · omega
        · exact h1
      have := (toE hR).sub (C := fun u => u < n ∧ 0 ≤ o.getD u 0) ⟨hsn, P.start⟩ fun s u ⟨h1, h2⟩ he =>
        ⟨inn s u he, P.closed s h1 h2 (by have := (P.vals s h1).2; have := hno s h1; omega) u (inn s u he) he⟩
      exact this.2
end Go.Proofs.Ytjblfgagafmhcaa.Fw
namespace Go.Proofs.Ytjblfgagafmhcaa.Fw
open Go.RowKit
open Go.Proofs.YtjblfgagafmhcaaW.PrintWords (Kd Reps OwnRow)
theorem reps_of_cells {α : Type} {d : Rp α} {w0 : World} {R : α → List Value → Prop} (hR : ∀ x a, d.K w0 x a → R x a) : ∀ {xs : List α} {cs : List Value}, Cells d w0 xs cs → Reps R d.sz xs cs
  | [], cs, h => by simp only [Cells] at h; subst h; exact ⟨by simp, fun j p hj => by simp at hj⟩
  | x :: xs, cs, ⟨a, r, e, h1, h2⟩ => by
    subst e
    have ih := reps_of_cells hR h2
    have hl := d.len h1
    refine ⟨by rw [List.length_append, hl, ih.1, List.length_cons, Nat.add_mul, Nat.one_mul, Nat.add_comm], fun j p hj => ?_⟩
    cases j with
    | zero =>
      simp only [List.getElem?_cons_zero, Option.some.injEq] at hj
      subst hj
      rw [Nat.zero_mul, List.drop_zero, List.take_left' hl]
      exact hR _ _ h1
    | succ j =>
      have := ih.2 j p (by simpa using hj)
      rw [show (j + 1) * d.sz = a.length + j * d.sz from by rw [hl, Nat.add_mul, Nat.one_mul, Nat.add_comm], List.drop_append, List.drop_of_length_le (by omega), List.nil_append, Nat.add_sub_cancel_left]
      exact this
def fewC (c : Copy) : Copy := ⟨c.at_, c.seg, c.bridge, c.port, c.raw.extract 0 (min c.raw.size 130)⟩
def fewL (l : List Copy) : List Copy := (l.take 60).map fewC
theorem info_Copy : (Try.prog.info? 80).map (fun i => (i.zero, i.size, i.bytes)) = some (some (.agg #[(.int .i64 0), (.int .i64 0), (.int .i64 0), (.int .i64 0), (.string ⟨#[]⟩)]), 5, 48) := by kernel_rfl
set_option maxHeartbeats 1000000 in
set_option maxRecDepth 100000 in
theorem few_any (l : List Copy) (A : Option Addr) (c : Nat) (w : World) (hS : Sl rCopy w A c l) :
    Calls Try.prog 10 #[.slice A l.length c] w fun e w' => ∃ v, e = .returned v ∧ Own rCopy 80 w w' w.heap.size v (fewL l) ∧ Below w.heap.size w w' := by
  have hn := hS.bound
  have hcap := hS.1
  have HS := Lib.hid hS
  clear hS
  obtain ⟨m, hm⟩ : ∃ m, m = min l.length 60 := ⟨_, rfl⟩
  have e60 : min (l.length : Int) 60 = (m : Int) := by omega
  have hml : m ≤ l.length := by omega
  have hm60 : m ≤ 60 := by omega
  have hT := Lib.hid (show l.take 60 = l.take m from by
    rcases Nat.le_total l.length 60 with h | h
    · rw [List.take_of_length_le h, List.take_of_length_le (by omega)]
    · rw [show m = 60 from by omega])
  clear hm
  go_enter Try.func10, Try.ntmps10
  go_wp2
  go_loopg [3, 12] m (fun gg s2 s12 wr => ∃ (kk : Nat), kk ≤ m ∧ m - kk ≤ gg ∧ s12 = .int .i64 kk ∧ Aside (Below w.heap.size w wr) ∧ Aside (Own rCopy 80 w wr w.heap.size s2 ((l.take kk).map fewC)))
  case atStart => exact ⟨0, Nat.zero_le _, by omega, rfl, aside (Below.refl _ _), aside (by simpa using Own.nil rCopy 80 w _ w.heap.size)⟩
  case round =>
    obtain ⟨kk, hkk, hg, rfl, BW, HO⟩ := hrel
    by_cases hlt : kk < m
    · have hlz : (kk : Int) < (m : Int) := by omega
      obtain ⟨b, off, x, rfl, hb, hd, hK, f0, f1, f2, f3, f4, q0, q1, q2, q3, q4⟩ := HS.out.atCopy BW.out kk (by omega)
      have HD := Lib.hid hd
      obtain ⟨m2, hm2⟩ : ∃ m2, m2 = min x.raw.size 130 := ⟨_, rfl⟩
      have e130 : min (x.raw.size : Int) 130 = (m2 : Int) := by omega
      have hm2l : m2 ≤ x.raw.size := by omega
      have HM2 := Lib.hid hm2
      clear hK hd hm2
      have HFC := Lib.hid (show fewC x = ⟨x.at_, x.seg, x.bridge, x.port, x.raw.extract 0 m2⟩ from by rw [fewC, ← HM2.out])
      have HZ := Lib.hid (show (x.raw.extract 0 m2).size ≤ 9223372036854775807 from by rw [ByteArray.size_extract]; omega)
      have HLEN := Lib.hid (show ((l.take kk).map fewC).length ≤ 60 from by rw [List.length_map, List.length_take]; omega)
      have HBA := Lib.hid (BW.out.alloc BW.out.size (.cells #[.int .i64 x.at_, .int .i64 x.seg, .int .i64 x.bridge, .int .i64 x.port, .string (x.raw.extract 0 m2)] 80))
      go_wp2_with (at_builtin; refine wpList_append1n rCopy w.heap.size rfl _ _ 27 80 (.agg #[(.int .i64 0), (.int .i64 0), (.int .i64 0), (.int .i64 0), (.string ⟨#[]⟩)]) 48 rfl Try.underlying27 info_Copy rfl (by decide) (by decide) _ _ (⟨x.at_, x.seg, x.bridge, x.port, x.raw.extract 0 m2⟩ : Copy) [.int .i64 x.at_, .int .i64 x.seg, .int .i64 x.bridge, .int .i64 x.port, .string (x.raw.extract 0 m2)] rfl (wr.heap.size + 1) rfl (by rw [World.size_alloc]) ⟨rfl, f0, f1, f2, f3, HZ.out⟩ (HO.out.alloc _) HBA.out.size (by have := HLEN.out; omega) ?_; intro v1 w1 hO1 hg1)
      go_roundg (m - (kk + 1))
      case measure => omega
      case rel => exact ⟨kk + 1, by omega, by omega, by go_num, aside (below_grown HBA.out hg1 HBA.out.size (fun k hk => (HO.out.lt k hk).1)), aside (by rw [take_snoc HD.out, List.map_append, List.map_singleton, HFC.out]; exact hO1)⟩
    · have hlz : ¬ (kk : Int) < (m : Int) := by omega
      obtain rfl : kk = m := by omega
      have HF := Lib.hid (show fewL l = (l.take kk).map fewC from by rw [fewL, hT.out])
      go_wp2
      go_ret
      exact ⟨_, rfl, by rw [HF.out]; exact HO.out, BW.out⟩
theorem R_copies {e : TypeId} {w0 w : World} {base : Nat} {v : Value} {xs : List Copy} (h : Own rCopy e w0 w base v xs) : Kd.R K.k80 e w base (fun _ => True) v xs := by
  obtain ⟨cs, h1, h2⟩ := h
  exact ⟨fun _ _ => trivial, cs, h1, reps_of_cells (fun x a hk => by obtain ⟨rfl, _⟩ := hk; exact K.k80_mkM _ _ _ _) h2⟩
end Go.Proofs.Ytjblfgagafmhcaa.Fw
namespace Go.Proofs.Ytjblfgagafmhcaa.K
open Go.RowKit Go.Proofs.YtjblfgagafmhcaaW.PrintWords Go.Proofs.YtjblfgagafmhcaaW.PrintLast Go.Proofs.YtjblfgagafmhcaaW.PrintMore
attribute [local go_sem] max2_int min2_int max_two min_two max_three min_three max_four min_four   -- for this text's walks alone
set_option linter.unusedVariables false
set_option linter.unusedSimpArgs false
noncomputable section
open Classical in
noncomputable def footwayref17_Steps.f (a0_0 : Int) (l0_1 : List (S64)) (l0_2 : List (S91)) (l1 : List (List Bool)) (a2 : Int) : Option (List Int) :=
 if (∀ x ∈ l0_1, Fw.okPlan x) ∧ Fw.mayOk ⟨a0_0, l0_1, l0_2⟩ l1 = true ∧ 0 ≤ a2 ∧ a2 < a0_0 then some (Fw.refSteps ⟨a0_0, l0_1, l0_2⟩ l1 a2) else none
set_option maxHeartbeats 1000000 in
set_option maxRecDepth 100000 in
theorem footwayref17_Steps.calls (a0_0 : Int) (A0_1 : Option Addr) (c0_1 : Nat) (l0_1 : List (S64)) (A0_2 : Option Addr) (c0_2 : Nat) (l0_2 : List (S91)) (A1 : Option Addr) (c1 : Nat) (l1 : List (List Bool)) (a2 : Int) (r : List Int) (w : World) (hr0_1 : Kd.C k64 w A0_1 l0_1.length l0_1) (hc0_1 : l0_1.length ≤ c0_1) (hr0_2 : Kd.C k91 w A0_2 l0_2.length l0_2) (hc0_2 : l0_2.length ≤ c0_2) (hr1 : Kd.C (Kd.slice 4 Kd.bool) w A1 l1.length l1) (hc1 : l1.length ≤ c1) (h : footwayref17_Steps.f a0_0 l0_1 l0_2 l1 a2 = some r) :
  Calls Try.prog 89 #[.agg #[.int .i64 a0_0, .slice A0_1 l0_1.length c0_1, .slice A0_2 l0_2.length c0_2], .slice A1 l1.length c1, .int .i64 a2] w fun e w' => ∃ v0_ : Value, e = .returned (v0_) ∧ Kd.R (Kd.int .i64) 3 w' w.heap.size (fun _ => True) v0_ r ∧ Below w.heap.size w w' := by
 unfold footwayref17_Steps.f at h
 split at h
 ·rename_i ok
  obtain rfl := Option.some.inj h
  refine (Fw.refSteps_full a0_0 l0_1 l0_2 l1 a2 A0_1 A0_2 A1 c0_1 c0_2 c1 w hr0_1 hc0_1 hr0_2 hc0_2 hr1 hc1 ok.1 ok.2.1 ok.2.2.1 ok.2.2.2).mono ?_
  rintro e w' ⟨v, rfl, ho, hb⟩
  exact ⟨v, rfl, Fw.R_ints ho, hb⟩
 ·cases h
end
end Go.Proofs.Ytjblfgagafmhcaa.K
