/- Part 9 of the proof of one statement: what is written for it by hand and by a program of this seat's, over the given program's form. Conditions: none. -/
import Derived.Test.YtjblfgagafmhcaaZ6
import Derived.Test.YtjblfgagafmhcaaZ7
import Derived.Laws.CopyOwn
import Derived.Laws.MakeOwn
import Derived.Test.YtjblfgagafmhcaaZ8
set_option linter.unusedVariables false
set_option linter.unusedSimpArgs false
namespace Go.Proofs.Ytjblfgagafmhcaa.Fw
open Go.RowKit
theorem splice_rep (x z : Value) (n m k : Nat) (h : m + k ≤ n) : splice (List.replicate m x ++ List.replicate (n - m) z) m (List.replicate k x) = List.replicate (m + k) x ++ List.replicate (n - (m + k)) z := by
  unfold splice
  rw [List.take_left' (by simp), List.drop_append, List.length_replicate, List.length_replicate, List.drop_eq_nil_of_le (by simp), List.nil_append, List.drop_replicate, ← List.append_assoc, List.replicate_append_replicate]
  rw [show n - m - (m + k - m) = n - (m + k) from by omega]
theorem size_int : (Try.prog.info? 3).map (·.size) = some 1 := by kernel_rfl
set_option maxHeartbeats 1000000 in
set_option maxRecDepth 100000 in
theorem repeat_any (x : Int) (n b : Nat) (w : World) (hx : int64 x) (h1 : 1 ≤ n) (h8 : n ≤ 8) (hb : b < w.heap.size) (hc : w.cell? ⟨b, 0, none⟩ = some (.int .i64 x)) :
    Calls Try.prog 117 #[.slice (some ⟨b, 0, none⟩) 1 1, .int .i64 n] w fun e w' => e = .returned (.slice (some ⟨w.heap.size, 0, none⟩) n n) ∧ Own rInt 3 w w' w.heap.size (.slice (some ⟨w.heap.size, 0, none⟩) n n) (List.replicate n x) ∧ Below w.heap.size w w' := by
  obtain ⟨i0, hi, hz0, hz1, hz2⟩ : ∃ i, Try.prog.info? 3 = some i ∧ i.zero = some (.int .i64 0) ∧ i.size = 1 ∧ i.bytes = 8 := by
    obtain ⟨i, hi, hzz⟩ := Option.map_eq_some_iff.1 info_int
    simp only [Prod.mk.injEq] at hzz
    exact ⟨i, hi, hzz.1, hzz.2.1, hzz.2.2⟩
  have hms := run_makeSlice (P := Try.prog) w 31 3 i0 (.int .i64 0) Try.underlying31 hi hz0 .i64 .i64 n n (by omega) (Int.le_refl _) (by rw [hz1]; omega) (by rw [hz2]; omega) (by omega)
  simp only [Int.toNat_natCast, hz1, Nat.mul_one] at hms
  obtain ⟨cz, hcz⟩ : ∃ cz, madeCells (Value.int .i64 0).cells n = cz := ⟨_, rfl⟩
  rw [hcz] at hms
  have hcz2 : cz.toList = List.replicate n (.int .i64 0) := by rw [← hcz]; exact toList_madeCells_one _ _
  have HCZ := Lib.hid hcz2
  clear hcz hcz2 hi hz0 hz1 hz2
  have e1 : (1 * n / 18446744073709551616 : Nat) = 0 := Nat.div_eq_of_lt (by omega)
  have e2 : (1 * n % 18446744073709551616 : Nat) = n := by rw [Nat.one_mul]; exact Nat.mod_eq_of_lt (by omega)
  have hnz : ¬ ((n : Int) < 0) := by omega
  go_enter Try.func117, Try.ntmps117
  have hrep : ∀ (m : Nat), (List.replicate m (Value.int .i64 x)).length = m := fun m => List.length_replicate
  have hone : ∀ (m : Nat), ∀ v ∈ List.replicate m (Value.int .i64 x), v.oneCell' = true := fun m v hv => by rw [List.eq_of_mem_replicate hv]; rfl
  have hst : (w.alloc (.cells cz 3)).heap[w.heap.size]? = some (.cells (List.replicate n (.int .i64 0)).toArray 3 (0, 0)) := by
    rw [show (List.replicate n (Value.int .i64 0)).toArray = cz from by rw [← HCZ.out]]; exact blk_new w _
  have hcx : (w.alloc (.cells cz 3)).cell? ⟨b, 0, none⟩ = some (.int .i64 x) := (((Below.refl w.heap.size w).alloc (Nat.le_refl _) _).cell (p := ⟨b, 0, none⟩) hb).trans hc
  have HST := Lib.hid hst
  have HCX := Lib.hid hcx
  have HREP := Lib.hid hrep
  have HONE := Lib.hid hone
  clear hst hcx hrep hone
  go_wp2_with (first
    | (go_at_call 149; refine (Try.bits_Mul 1 n (by omega) (by omega) _).mono ?_; rw [e1, e2]; rintro e w' ⟨rfl, he⟩; rw [he]; clear he)
    | (refine wpList_copy_splice rfl (.tmp 31) (.tmp 32) 31 31 rfl 3 Try.underlying31 size_int (some ⟨w.heap.size, 0, none⟩) (some ⟨b, 0, none⟩) n n 1 1 rfl rfl w.heap.size 0 (List.replicate n (.int .i64 0)) 3 HST.out (List.replicate 1 (.int .i64 x)) (by rw [List.length_replicate]; exact (Nat.min_eq_left h1).symm) (fun _ => ⟨rfl, _, rfl, fun j v hj => by
        have hj0 : j = 0 := by have := (List.getElem?_eq_some_iff.1 hj).1; simp at this; omega
        subst hj0
        obtain rfl : Value.int .i64 x = v := by simpa using hj
        exact HCX.out⟩) (by rw [List.length_replicate, List.length_replicate]; omega) (HONE.out 1) w.heap.size w ((Below.refl _ _).alloc (Nat.le_refl _) _) (Nat.le_refl _) ?_; intro w2 hg2 hb2))
  have hr1 : w2.heap[w.heap.size]? = some (.cells (List.replicate 1 (Value.int .i64 x) ++ List.replicate (n - 1) (Value.int .i64 0)).toArray 3 (0, 0)) := by
    have := hg2.out
    rw [show List.replicate n (Value.int .i64 0) = List.replicate 0 (Value.int .i64 x) ++ List.replicate (n - 0) (Value.int .i64 0) from by simp, splice_rep _ _ _ _ _ (by omega), Nat.zero_add] at this
    exact this
  have HR1 := Lib.hid hr1
  have HB2 := Lib.hid hb2
  clear hr1 hb2 hg2
  go_loopg [8] n (fun gg s8 wr => ∃ m : Nat, 1 ≤ m ∧ m ≤ n ∧ n - m ≤ gg ∧ s8 = .int .i64 m ∧ Aside (Below w.heap.size w wr) ∧ Aside (wr.heap[w.heap.size]? = some (.cells (List.replicate m (Value.int .i64 x) ++ List.replicate (n - m) (Value.int .i64 0)).toArray 3 (0, 0))))
  case atStart => exact ⟨1, Nat.le_refl _, h1, by omega, by simp, aside HB2.out, aside HR1.out⟩
  case round =>
    obtain ⟨m, hm1, hmn, hg, rfl, BW, HR⟩ := hrel
    by_cases hlt : m < n
    · have hlz : (m : Int) < (n : Int) := by omega
      have hne : ¬ n = m := by omega
      have hle : m ≤ n := by omega
      obtain ⟨k, hk⟩ : ∃ k, k = Nat.min m (n - m) := ⟨_, rfl⟩
      have hk1 : k ≤ m := by rw [hk]; exact Nat.min_le_left _ _
      have hk2 : m + k ≤ n := by have : k ≤ n - m := by rw [hk]; exact Nat.min_le_right _ _
                                 omega
      have hk0 : 0 < k := by rw [hk]; exact Nat.lt_min.2 ⟨by omega, by omega⟩
      have HK := Lib.hid hk
      have HSRC := Lib.hid (show ∀ j v, (List.replicate k (Value.int .i64 x))[j]? = some v → wr.drew.cell? ((⟨w.heap.size, 0, none⟩ : Addr).add j) = some v from fun j v hj => by
        have hjk : j < k := by simpa using (List.getElem?_eq_some_iff.1 hj).1
        rw [add_none, Nat.zero_add]
        refine blk_cell (show wr.drew.heap[w.heap.size]? = _ from HR.out) ?_
        rw [List.getElem?_toArray, List.getElem?_append_left (by rw [List.length_replicate]; omega), ← hj, List.getElem?_replicate, List.getElem?_replicate, if_pos hjk, if_pos (by omega)])
      clear hk
      go_wp2_with fail
      focus (refine wp_region_any (by kernel_rfl) ?_; (try (change wpAny _ _ _ _ _ _ _ (World.drew _))); (refine wpAny_take (i := 0) (v := ?_) rfl (by kernel_rfl) (by kernel_rfl) (by kernel_rfl) (fun _ _ _ h => h) (Or.inl ⟨by rfl, ?_⟩) ?_; rotate_left 1; (intro w; go_simp; try (with_reducible rfl))); (refine wpAny_take (i := 1) (v := ?_) rfl (by kernel_rfl) (by kernel_rfl) (by kernel_rfl) (fun _ _ _ h => h) (Or.inl ⟨by rfl, ?_⟩) ?_; rotate_left 1; (intro w; go_simp; try (with_reducible rfl))); (refine wpAny_take (i := 2) (v := ?_) rfl (by kernel_rfl) (by kernel_rfl) (by kernel_rfl) (fun _ _ _ h => h) (Or.inl ⟨by rfl, ?_⟩) ?_; rotate_left 1; (intro w; go_simp; try (with_reducible rfl))); (refine wpAny_take (i := 3) (v := ?_) rfl (by kernel_rfl) (by kernel_rfl) (by kernel_rfl) (fun _ _ _ h => h) (Or.inl ⟨by rfl, ?_⟩) ?_; rotate_left 1; (intro w; go_simp; try (with_reducible rfl))); (refine wpAny_take (i := 4) (v := ?_) rfl (by kernel_rfl) (by kernel_rfl) (by kernel_rfl) (fun _ _ _ h => h) (Or.inl ⟨by rfl, ?_⟩) ?_; rotate_left 1; (intro w; go_simp; try (with_reducible rfl))); (refine wpAny_take (i := 5) (v := ?_) rfl (by kernel_rfl) (by kernel_rfl) (by kernel_rfl) (fun _ _ _ h => h) (Or.inl ⟨by rfl, ?_⟩) ?_; rotate_left 1; (intro w; go_simp; try (with_reducible rfl))); (refine wpAny_take (i := 6) (v := ?_) rfl (by kernel_rfl) (by kernel_rfl) (by kernel_rfl) (fun _ _ _ h => h) (Or.inl ⟨by rfl, ?_⟩) ?_; rotate_left 1; (intro w; go_simp; try (with_reducible rfl))); refine wpAny_ready (rs := [7]) (by kernel_rfl) (by simp) ?_; (refine AllReady.cons rfl (fun K hK => ?_) ?_); ((try simp only [Act.put, List.getElem_toArray, List.getElem_cons_zero, List.getElem_cons_succ, List.setIfInBounds_toArray, List.set_cons_zero, List.set_cons_succ]); rw [if_pos (show Region.wanted _ _ = true from rfl)]; (refine wp_of_step (ops := #[]) (E := True) rfl (step_copy_splice rfl _ _ 31 31 rfl 3 Try.underlying31 size_int (some ⟨w.heap.size, m, none⟩) (some ⟨w.heap.size, 0, none⟩) (n - m) (n - m) m n rfl rfl w.heap.size m (List.replicate m (Value.int .i64 x) ++ List.replicate (n - m) (Value.int .i64 0)) 3 (show wr.drew.heap[w.heap.size]? = _ from HR.out) (List.replicate k (Value.int .i64 x)) (by rw [List.length_replicate]; exact HK.out) (fun _ => ⟨rfl, _, rfl, HSRC.out⟩) (by rw [List.length_append, List.length_replicate, List.length_replicate, List.length_replicate]; omega) (HONE.out k) w.heap.size w BW.out.drew (Nat.le_refl _) ?_); intro w3 hg3 hb3); refine hK _ _ ?_; clear hK K); (refine wpAny_take (i := 8) (v := ?_) rfl (by kernel_rfl) (by kernel_rfl) (by kernel_rfl) (fun _ _ _ h => h) (Or.inl ⟨by rfl, ?_⟩) ?_; rotate_left 1; (intro w; go_simp; try (with_reducible rfl))); (refine wpAny_take (i := 9) (v := ?_) rfl (by kernel_rfl) (by kernel_rfl) (by kernel_rfl) (fun _ _ _ h => h) (Or.inl ⟨by rfl, ?_⟩) ?_; rotate_left 1; (intro w; go_simp; try (with_reducible rfl))); (refine wpAny_done (by kernel_rfl) ?_ _); rotate_left 1; exact AllReady.nil)
      rw [HREP.out]
      go_wp2
      go_roundg (n - (m + k))
      case measure => omega
      case rel => exact ⟨m + k, by omega, hk2, by omega, by rw [show IntKind.i64.wrap ((m : Int) + (k : Int)) = ((m + k : Nat) : Int) from by rw [wraps_i64' _ (by omega) (by omega)]; omega], aside hb3, aside (by have := hg3.out; rw [splice_rep _ _ _ _ _ hk2] at this; exact this)⟩
    · have hlz : ¬ (m : Int) < (n : Int) := by omega
      obtain rfl : m = n := by omega
      have hr := HR.out
      rw [Nat.sub_self] at hr
      simp only [List.replicate_zero, List.append_nil] at hr
      have HF := Lib.hid hr
      clear hr
      go_wp2
      go_ret
      refine ⟨rfl, Own.ofInts ⟨by simp, .inr ⟨w.heap.size, m, _, by rw [List.length_replicate], Nat.le_refl _, HF.out, by rw [List.length_replicate]; exact Nat.le_refl _, by simp only [maxLen]; omega, by simp, by simp⟩⟩ (fun y hy => by rw [List.eq_of_mem_replicate hy]; exact hx), BW.out⟩
end Go.Proofs.Ytjblfgagafmhcaa.Fw
namespace Go.Proofs.Ytjblfgagafmhcaa.Fw
open Go.RowKit
def negs (out : List Int) : Nat := out.countP fun x => decide (x < 0)
def relax (cur : Nat) : List Int → List Int → List Int → List Int × List Int
  | [], out, q => (out, q)
  | t :: ts, out, q => if out.getD t.toNat 0 < 0 then relax cur ts (out.set t.toNat (out.getD cur 0 + 1)) (q ++ [t]) else relax cur ts out q
def bfs (rows : List (List Int)) : Nat → Nat → List Int → List Int → List Int
  | 0, _, out, _ => out
  | f + 1, i, out, q => if i < q.length then bfs rows f (i + 1) (relax (q.getD i 0).toNat (nextTo rows (q.getD i 0)) out q).1 (relax (q.getD i 0).toNat (nextTo rows (q.getD i 0)) out q).2 else out
structure Inv (n : Nat) (out q : List Int) : Prop where
  len : out.length = n
  qs : ∀ x ∈ q, 0 ≤ x ∧ x < n
  vals : ∀ x ∈ out, -1 ≤ x ∧ x ≤ q.length
  sum : q.length + negs out = n
theorem countP_set {out : List Int} {p : Int → Bool} : ∀ {j : Nat} {y : Int} (hj : j < out.length), p out[j] = true → p y = false → (out.set j y).countP p + 1 = out.countP p := by
  induction out with
  | nil => intro j y hj; simp at hj
  | cons x xs ih =>
    intro j y hj h1 h2
    cases j with
    | zero =>
      simp only [List.getElem_cons_zero] at h1
      simp [h1, h2]
    | succ j =>
      simp only [List.getElem_cons_succ] at h1
      have := ih (by simpa using hj) h1 h2
      simp only [List.set_cons_succ, List.countP_cons]
      omega
theorem Inv.step {n : Nat} {out q : List Int} (h : Inv n out q) {t : Int} {cur : Nat} (ht : 0 ≤ t ∧ t < n) (hc : cur < n) (hn : out.getD t.toNat 0 < 0) : Inv n (out.set t.toNat (out.getD cur 0 + 1)) (q ++ [t]) := by
  have hl := h.len
  have htl : t.toNat < out.length := by omega
  have hcv := h.vals (out.getD cur 0) (by rw [List.getD_eq_getElem?_getD, List.getElem?_eq_getElem (by omega)]; simp)
  rw [List.getD_eq_getElem?_getD, List.getElem?_eq_getElem htl, Option.getD_some] at hn
  refine ⟨by rw [List.length_set]; exact hl, fun x hx => ?_, fun x hx => ?_, ?_⟩
  · rcases List.mem_append.1 hx with h1 | h1
    · exact h.qs x h1
    · rw [List.mem_singleton.1 h1]; exact ht
  · rw [List.length_append, List.length_singleton]
    rcases List.mem_or_eq_of_mem_set hx with h1 | h1
    · have := h.vals x h1; omega
    · omega
  · have h3 := countP_set (p := fun x => decide (x < 0)) (y := out.getD cur 0 + 1) htl (by simpa using hn) (decide_eq_false (by omega))
    have := h.sum
    rw [List.length_append, List.length_singleton]
    unfold negs at *
    omega
theorem Inv.relax {n cur : Nat} (hc : cur < n) : ∀ (ts : List Int) {out q : List Int}, Inv n out q → (∀ t ∈ ts, 0 ≤ t ∧ t < n) → Inv n (relax cur ts out q).1 (relax cur ts out q).2
  | [], _, _, h, _ => h
  | t :: ts, out, q, h, ht => by
    have h2 : ∀ u ∈ ts, 0 ≤ u ∧ u < n := fun u hu => ht u (List.mem_cons_of_mem _ hu)
    rw [Go.Proofs.Ytjblfgagafmhcaa.Fw.relax]
    split
    · rename_i hn
      exact Inv.relax hc ts (h.step (ht t List.mem_cons_self) hc hn) h2
    · exact Inv.relax hc ts h h2
theorem Inv.start {n : Nat} {seg : Nat} (h : seg < n) : Inv n ((List.replicate n (-1 : Int)).set seg 0) [(seg : Int)] := by
  refine ⟨by simp, fun x hx => by rw [List.mem_singleton.1 hx]; omega, fun x hx => ?_, ?_⟩
  · rcases List.mem_or_eq_of_mem_set hx with h1 | h1
    · rw [List.eq_of_mem_replicate h1]; simp
    · rw [h1]; simp
  · have h3 := countP_set (p := fun x => decide (x < 0)) (out := List.replicate n (-1 : Int)) (j := seg) (y := 0) (by simpa using h) (by simp) (by simp)
    have h4 : (List.replicate n (-1 : Int)).countP (fun x => decide (x < 0)) = n := by simp [List.countP_replicate]
    unfold negs
    rw [h4] at h3
    simp only [List.length_singleton]
    omega
end Go.Proofs.Ytjblfgagafmhcaa.Fw
namespace Go.Proofs.Ytjblfgagafmhcaa.Fw
open Go.RowKit
theorem run_append_blk {P : Program} (w : World) (base : Nat) (t ty e : TypeId) (i : TypeInfo) (z : Value) (size bytes : Nat) (ht : P.underlying t = some (.slice e)) (hi : P.info? e = some i) (hz : i.zero = some z)
    (hsize : i.size = size) (hby : i.bytes = bytes) (hzs : z.cells.size = size) (hsz : 0 < size)
    (v : Value) (n : Nat) (xs : List Value) (hown : w.ownsRow base e size v n xs)
    (a : Addr) (m c : Nat) (news : List Value) (hl : news.length = m * size) (hnews : ∀ j u, news[j]? = some u → w.cell? (a.add j) = some u) (h1 : ∀ u ∈ news, u.oneCell' = true) (hm : 0 < m)
    (h63 : n + m ≤ maxLen) (hbytes : (n + m) * bytes ≤ 140737488355328) (v' : Value) (w' : World) (hr' : (Builtin.append_ #[t, t] ty #[v, .slice (some a) m c]).run P w = .ok v' w') :
    v'.ownBlock = v.ownBlock ∨ v'.ownBlock = some w.heap.size := by
  subst hsize
  subst hby
  have hsmall : n + m ≤ 9223372036854775807 := by simp only [maxLen] at h63; omega
  rcases hown.2 with ⟨rfl, rfl⟩ | ⟨g, cap, cur, rfl, hbg, hg, hnc, hcm, hcs, htake⟩
  · have hr := run_append_nil (P := P) w t ty e i z ht hi hz a m c news hl hnews (by omega) (by omega) (by have hb := hbytes; simp only [Nat.zero_add] at hb; omega)
    rw [hr] at hr'
    cases hr'
    exact .inr rfl
  · by_cases hroom : n + m ≤ cap
    · have hfit : n * i.size + news.length ≤ cur.size := by rw [hl, hcs, ← Nat.add_mul]; exact Nat.mul_le_mul_right _ hroom
      have hr := run_append_room (P := P) w t ty e i ht hi g n cap cur hg a m c news hl hnews h1 hroom hfit
      rw [hr] at hr'
      cases hr'
      exact .inl rfl
    · have holds : ∀ j u, xs[j]? = some u → w.cell? ((⟨g, 0, none⟩ : Addr).add j) = some u := hown.cells (g := g) rfl
      have hr := run_append_grow (P := P) w t ty e i z ht hi hz ⟨g, 0, none⟩ n cap xs hown.1 holds a m c news hl hnews (by omega) (by omega) (growslice_fits (by omega) hbytes)
      rw [hr] at hr'
      cases hr'
      exact .inr rfl
theorem wpList_append1b {α : Type} {P : Program} {ops : Array Oper} {rest : List Oper} {o : Oper} {a : Act} {Q : Exit → Act → World → Prop} {w0 W : World} (d : Rp α) (base : Nat) (hgd : o.guard = none) (s x : Operand) (t e : TypeId) (z : Value) (bytes : Nat)
    (ho : o.op = .call { callee := .builtin .append, args := #[s, x], argTypes := #[t, t] })
    (ht : P.underlying t = some (.slice e)) (hinfo : (P.info? e).map (fun i => (i.zero, i.size, i.bytes)) = some (some z, d.sz, bytes)) (hz : z.cells.size = d.sz) (hs0 : 0 < d.sz) (hb0 : 0 < bytes)
    (v : Value) (xs : List α) (y : α) (ys : List Value) (hs : a.eval s = v) (n : Nat) (hx : a.eval x = .slice (some ⟨n, 0, none⟩) 1 1) (hn : n = W.heap.size) (hy : d.K w0 y ys)
    (HO : Own d e w0 W base v xs) (hbase : base ≤ W.heap.size) (hl : (xs.length + 1) * bytes ≤ 140737488355328)
    (h : ∀ v1 w1, Own d e w0 w1 base v1 (xs ++ [y]) → W.grownBy w1 v.ownBlock → (v1.ownBlock = v.ownBlock ∨ v1.ownBlock = some (W.heap.size + 1)) → wpList P ops Q rest (a.put o.dst v1) w1) :
    wpList P ops Q (o :: rest) a (W.alloc (.cells ys.toArray e)) := by
  obtain ⟨i0, hi, hzz⟩ := Option.map_eq_some_iff.1 hinfo
  simp only [Prod.mk.injEq] at hzz
  obtain ⟨hz0, hz1, hz2⟩ := hzz
  have hlen : xs.length + 1 ≤ 140737488355328 := Nat.le_trans (Nat.le_mul_of_pos_right _ hb0) hl
  obtain ⟨cs, hown, hc⟩ := HO
  have hown' : (W.alloc (.cells ys.toArray e)).ownsRow base e d.sz v xs.length cs := hown.kept (World.grownBy_alloc W _ none) (by cases v.ownBlock <;> simp)
  have hnews : ∀ j u, ys[j]? = some u → (W.alloc (.cells ys.toArray e)).cell? ((⟨n, 0, none⟩ : Addr).add j) = some u := fun j u hj => by
    rw [add_none, Nat.zero_add, hn]
    exact blk_cell (blk_new W _) (by simpa using hj)
  have hyl : ys.length = 1 * d.sz := by rw [d.len hy, Nat.one_mul]
  obtain ⟨v', w', hr, h2, h3, h4⟩ := run_append_own (P := P) (W.alloc (.cells ys.toArray e)) base t o.type e i0 z d.sz bytes ht hi hz0 hz1 hz2 hz hs0 v xs.length cs hown' ⟨n, 0, none⟩ 1 1 ys hyl hnews (d.one hy) (by simp only [maxLen]; omega) hl (by simp; omega)
  have hblk := run_append_blk (P := P) (W.alloc (.cells ys.toArray e)) base t o.type e i0 z d.sz bytes ht hi hz0 hz1 hz2 hz hs0 v xs.length cs hown' ⟨n, 0, none⟩ 1 1 ys hyl hnews (d.one hy) (by omega) (by simp only [maxLen]; omega) hl v' w' hr
  refine wpList_plain hgd fun K hK => ?_
  unfold Oper.wp execOp
  simp only [ho, resolve, invoke, builtin, Sem.run_bind, Sem.run_pure, Result.andThen_ok, List.map_toArray, List.map_cons, List.map_nil, hs, hx, hr]
  exact hK _ _ (h v' w' ⟨_, by rw [List.length_append]; exact h2, hc.snoc hy⟩ (World.grownBy.trans (World.grownBy_alloc W _ _) h3) (by rw [World.size_alloc] at hblk; exact hblk))
end Go.Proofs.Ytjblfgagafmhcaa.Fw
namespace Go.Proofs.Ytjblfgagafmhcaa.Fw
open Go.RowKit
theorem catOf_mem {seg t : Int} : ∀ {rs : List (List Int)}, t ∈ catOf seg rs → ∃ r ∈ rs, t ∈ r
  | [], h => by simp [catOf] at h
  | r :: rs, h => by
    rw [catOf, List.mem_append] at h
    rcases h with h | h
    · split at h
      · exact ⟨r, List.mem_cons_self, h⟩
      · simp at h
    · obtain ⟨r', h1, h2⟩ := catOf_mem h
      exact ⟨r', List.mem_cons_of_mem _ h1, h2⟩
theorem nextTo_mem {rows : List (List Int)} {seg t : Int} (h : t ∈ nextTo rows seg) : ∃ r ∈ rows, t ∈ r := catOf_mem (List.mem_mergeSort.1 ((compact_mem _ _).1 h))
set_option maxHeartbeats 1000000 in
set_option maxRecDepth 100000 in
theorem steps_any (l : Lan) (A1 A2 A3 : Option Addr) (c1 c2 c3 : Nat) (open_ : List (List Bool)) (n seg : Nat) (w : World) (h1 : Sl rPlan w A1 c1 l.plans) (h3 : Sl (rSl rBool) w A3 c3 open_)
    (hlen : open_.length = l.plans.length) (h6 : l.plans.length ≤ 6) (hall : ∀ (j : Nat) (p : Plan) (r : List Bool), l.plans[j]? = some p → open_[j]? = some r → r.length = p.ports.length ∧ p.ports.length ≤ 8)
    (hs : l.segs = (n : Int)) (hn1 : 1 ≤ n) (hn8 : n ≤ 8) (hseg : seg < n) (hin : ∀ r ∈ allSegs l.plans open_, ∀ x ∈ r, 0 ≤ x ∧ x < (n : Int)) (hr8 : ∀ r ∈ allSegs l.plans open_, r.length ≤ 8) :
    Calls Try.prog 78 #[lanV l A1 A2 c1 c2, .slice A3 open_.length c3, .int .i64 seg] w fun e w' => ∃ v, e = .returned v ∧ Own rInt 3 w w' w.heap.size v (bfs (allSegs l.plans open_) n 0 ((List.replicate n (-1 : Int)).set seg 0) [(seg : Int)]) ∧ Below w.heap.size w w' := by
  have H1 := Lib.hid h1
  have H3 := Lib.hid h3
  have HALL := Lib.hid hall
  have HLEN := Lib.hid hlen
  have H6 := Lib.hid h6
  have HIN := Lib.hid hin
  have HR8 := Lib.hid hr8
  have hsz : (seg : Int) < (n : Int) := by omega
  have hs0 : (0 : Int) ≤ (seg : Int) := by omega
  clear h1 h3 hall hlen h6 hin hr8
  obtain ⟨L, hL⟩ : ∃ L : Obj, L = .cells #[.int .i64 l.segs, .slice A1 l.plans.length c1, .slice A2 l.hosts.length c2] 25 := ⟨_, rfl⟩
  have HB1 := Lib.hid (show Below w.heap.size w ((w.alloc L).alloc (.cells #[.int .i64 (-1)] 3)) from below2 w _ _)
  unfold lanV
  go_enter Try.func78, Try.ntmps78
  go_wp2_with fail
  refine (repeat_any (-1) n (w.heap.size + 1) _ (by constructor <;> omega) hn1 hn8 (by simp) ?_).mono ?_
  · rw [show w.heap.size + 1 = (w.alloc _).heap.size from (World.size_alloc _ _).symm]; exact blk_cell (blk_new (w.alloc _) _) rfl
  rintro e w1 ⟨rfl, hO1, hb1⟩
  rw [World.size_alloc, World.size_alloc] at hO1 ⊢
  have hBW1 := HB1.out
  rw [hL, hs] at hBW1
  have hb2 := Lib.hid (hBW1.trans (hb1.mono hBW1.size))
  have l1 := blk_below (blk_alloc (blk_new w _) _) hb1
  obtain ⟨q0, q1⟩ := hO1.get seg (by rw [List.length_replicate]; exact hseg)
  have hS2 := hO1.re (w1 := w)
  rw [show Value.slice (some ⟨w.heap.size + 1 + 1, 0, none⟩) n n = Value.slice (some ⟨w.heap.size + 1 + 1, 0, none⟩) (List.replicate n (-1 : Int)).length n from by rw [List.length_replicate]] at hS2
  obtain ⟨hO2, hg2⟩ := hS2.set seg 0 (by constructor <;> omega)
  rw [show Value.slice (some ⟨w.heap.size + 1 + 1, 0, none⟩) (List.replicate n (-1 : Int)).length n = Value.slice (some ⟨w.heap.size + 1 + 1, 0, none⟩) n n from by rw [List.length_replicate]] at hO2
  have l2 := blk_grown l1 hg2 (by simp; omega)
  have r0 := blk_cell (i := 0) l2 rfl
  have r1 := blk_cell (i := 1) l2 rfl
  have r2 := blk_cell (i := 2) l2 rfl
  have HO2 := Lib.hid hO2
  have HB3 := Lib.hid (below_grown hb2.out hg2 hb2.out.size (fun k hk => by cases hk; omega))
  have L2 := Lib.hid l2
  clear hO1 hS2 hO2 hb1 l1 l2 hg2 hBW1
  go_wp2_with fail
  refine (neighbours_any ⟨n, l.plans, l.hosts⟩ A1 A2 A3 c1 c2 c3 open_ _ (H1.out.below HB3.out) (H3.out.below HB3.out) HLEN.out H6.out HALL.out).mono ?_
  rintro e w3 ⟨v, rfl, hN, hb4⟩
  generalize hW2 : w1.setCell ⟨w.heap.size + 1 + 1, seg, none⟩ (.int .i64 0) = w2 at *
  have hlt2 := (HO2.out.lt _ rfl).2
  have HO3 := Lib.hid (HO2.out.below hb4)
  have HB5 := Lib.hid (HB3.out.trans (hb4.mono HB3.out.size))
  have HN := Lib.hid hN
  have hs3 := hb4.size
  have hs2 := HB3.out.size
  clear hN r0 r1 r2 q0 q1 hW2
  go_wp2_with fail
  go_loopg [9, 10, 12] n (fun gg s9 s10 _ wr => ∃ (i : Nat) (out q : List Int), i ≤ q.length ∧ n - i ≤ gg ∧ s10 = .int .i64 i ∧ Aside (Inv n out q) ∧ Aside (Own rInt 3 w wr (w.heap.size + 1 + 1) (.slice (some ⟨w.heap.size + 1 + 1, 0, none⟩) n n) out) ∧ Aside (Own rInt 3 w wr w3.heap.size s9 q) ∧
    Aside (∀ k, w2.heap.size ≤ k → k < w3.heap.size → wr.heap[k]? = w3.heap[k]?) ∧ Aside (Below w.heap.size w wr) ∧ Aside (w3.heap.size ≤ wr.heap.size) ∧ Aside (bfs (allSegs l.plans open_) (n - i) i out q = bfs (allSegs l.plans open_) n 0 ((List.replicate n (-1 : Int)).set seg 0) [(seg : Int)]))
  case atStart =>
    refine ⟨0, _, [(seg : Int)], Nat.zero_le _, by omega, rfl, aside (Inv.start hseg), aside (HO3.out.alloc _), aside ?_, aside (fun k _ hk => ((Below.refl w3.heap.size w3).alloc (Nat.le_refl _) _).block k hk), aside (HB5.out.alloc HB5.out.size _), aside (by simp), aside rfl⟩
    exact Own.ofInts ⟨by simp, .inr ⟨w3.heap.size, 1, _, rfl, Nat.le_refl _, blk_new w3 _, by simp, by simp [maxLen], by simp, by simp⟩⟩ (fun x hx => by rw [List.mem_singleton.1 hx]; constructor <;> omega)
  case round =>
    generalize wr = wa at *
    obtain ⟨i, out, q, hi, hg, rfl, INV, HOut, HQ, HFr, BW, HSZ, HR⟩ := hrel
    have hql : q.length ≤ n := by have := INV.out.sum; omega
    obtain ⟨A9, c9, hv9, hSq⟩ := HQ.out.reads BW.out
    subst hv9
    have HSQ := Lib.hid hSq
    clear hSq
    by_cases hlt : i < q.length
    · have hlz : (i : Int) < (q.length : Int) := by omega
      obtain ⟨b, off, x, rfl, hb, hd, hK, f0, p0⟩ := HSQ.out.atInt (Below.refl _ _) i hlt
      have hxn := INV.out.qs x (List.mem_of_getElem? hd)
      obtain ⟨xn, rfl⟩ := Int.eq_ofNat_of_zero_le hxn.1
      have hxl : xn < n := by omega
      have HD := Lib.hid hd
      obtain ⟨B, A', c', hvv, hcB, hBl, hSr⟩ := HN.out wa HFr.out HSZ.out
      subst hvv
      have HSR := Lib.hid hSr
      have eg' : ∀ args w, Sem.run Try.prog (callFunc 150 args) w = .ok (.enter 150 args) w := enters_of Try.func150 (by kernel_rfl) rfl
      clear hK hSr hd
      go_wp2_with (go_at_fn 150; refine (next_any (allSegs l.plans open_) B A' c' (xn : Int) _ hcB hBl HSR.out (Nat.le_trans (allSegs_length _ _) H6.out) HR8.out).mono ?_; rintro e w4 ⟨vt, rfl, hOt, hb4'⟩; obtain ⟨At, ct, hvt, hSt⟩ := hOt.reads hb4'; subst hvt)
      obtain ⟨ts, hts⟩ : ∃ ts, ts = nextTo (allSegs l.plans open_) (xn : Int) := ⟨_, rfl⟩
      rw [← hts] at hOt hSt ⊢
      have HTS := Lib.hid (show ∀ t ∈ ts, 0 ≤ t ∧ t < (n : Int) from fun t ht => by
        obtain ⟨r, hr, h⟩ := nextTo_mem (hts ▸ ht)
        exact HIN.out r hr t h)
      have HTE := Lib.hid hts
      have HOT := Lib.hid hOt
      have hb4s := hb4'.size
      have hlt9 := (HQ.out.lt b rfl)
      have HRL := Lib.hid (show bfs (allSegs l.plans open_) (n - (i + 1)) (i + 1) (relax xn ts out q).1 (relax xn ts out q).2 = bfs (allSegs l.plans open_) n 0 ((List.replicate n (-1 : Int)).set seg 0) [(seg : Int)] from by
        rw [← HR.out, show n - i = (n - (i + 1)) + 1 from by omega, bfs, if_pos hlt, List.getD_eq_getElem?_getD, HD.out, Option.getD_some, Int.toNat_natCast, hts])
      have HOut4 := Lib.hid (HOut.out.below hb4')
      have HQ4 := Lib.hid (HQ.out.below hb4')
      have HB4 := Lib.hid hb4'
      clear hts hOt hSt
      go_loopg [9, 12, 38] ts.length (fun gg s9 _ s38 w5 => ∃ (jj : Nat) (out' q' : List Int), jj ≤ ts.length ∧ ts.length - jj ≤ gg ∧ s38 = .int .i64 jj ∧ Aside (Inv n out' q') ∧ Aside (q'[i]? = some (xn : Int)) ∧
        Aside (Own rInt 3 w w5 (w.heap.size + 1 + 1) (.slice (some ⟨w.heap.size + 1 + 1, 0, none⟩) n n) out') ∧ Aside (Own rInt 3 w w5 w3.heap.size s9 q') ∧ Aside (∀ k, s9.ownBlock = some k → k < wa.heap.size ∨ w4.heap.size ≤ k) ∧
        Aside (∀ k, w2.heap.size ≤ k → k < w3.heap.size → w5.heap[k]? = w3.heap[k]?) ∧ Aside (∀ k, wa.heap.size ≤ k → k < w4.heap.size → w5.heap[k]? = w4.heap[k]?) ∧ Aside (Below w.heap.size w w5) ∧ Aside (w4.heap.size ≤ w5.heap.size) ∧
        Aside (relax xn (ts.drop jj) out' q' = relax xn ts out q))
      case atStart => exact ⟨0, out, q, Nat.zero_le _, by omega, rfl, INV, HD.out, HOut4.out, HQ4.out, aside (fun k hk => .inl (HQ.out.lt k hk).2), aside (fun k h1 h2 => (HB4.out.block k (Nat.lt_of_lt_of_le h2 HSZ.out)).trans (HFr.out k h1 h2)), aside (fun _ _ _ => rfl), aside (BW.out.trans (HB4.out.mono BW.out.size)), aside (Nat.le_refl _), aside rfl⟩
      case round =>
        obtain ⟨jj, out', q', hjj, hg2, rfl, INV2, HQI, HO5, HQ5, HBK, HF1, HF2, BW5, HS5, HRX⟩ := hrel
        obtain ⟨A7, c7, hv7, hS7⟩ := HQ5.out.reads BW5.out
        subst hv7
        have HS7 := Lib.hid hS7
        clear hS7
        by_cases hlt2 : jj < ts.length
        · have hlz2 : (jj : Int) < (ts.length : Int) := by omega
          have hO6 := (HOT.out.kept (w1 := wr) fun k hk => HF2.out k (HOT.out.lt k hk).1 (HOT.out.lt k hk).2).re (w1 := wr)
          obtain ⟨A8, c8, hv8, hS8⟩ := hO6.reads (Below.refl _ _)
          cases hv8
          have htb := hS8.bound
          obtain ⟨bt, offt, t, rfl, hbt, hdt, hKt, ft, pt⟩ := hS8.atInt (Below.refl _ _) jj hlt2
          have htn := HTS.out t (List.mem_of_getElem? hdt)
          obtain ⟨tn, rfl⟩ := Int.eq_ofNat_of_zero_le htn.1
          have hol := INV2.out.len
          have htl : tn < out'.length := by omega
          have hxl2 : xn < out'.length := by omega
          obtain ⟨p1, p2⟩ := HO5.out.get tn htl
          obtain ⟨p3, p4⟩ := HO5.out.get xn hxl2
          have hRX := HRX.out
          rw [drop_of_get hdt, relax, Int.toNat_natCast, List.getD_eq_getElem?_getD, List.getElem?_eq_getElem htl, Option.getD_some, List.getD_eq_getElem?_getD, List.getElem?_eq_getElem hxl2, Option.getD_some] at hRX
          have HRX2 := Lib.hid hRX
          have htnz : (tn : Int) < (n : Int) := htn.2
          clear hKt hdt hRX hO6 hS8
          by_cases hneg : out'[tn] < 0
          · have hRX3 := HRX2.out
            rw [if_pos hneg] at hRX3
            have HRX3 := Lib.hid hRX3
            have hiq := (List.getElem?_eq_some_iff.1 HQI.out).1
            have hiqz : (i : Int) < (q'.length : Int) := by omega
            obtain ⟨bq, offq, y, rfl, hbq, hdq, hKq, fq, pq⟩ := HS7.out.atInt (Below.refl _ _) i hiq
            obtain rfl : y = (xn : Int) := by have := HQI.out; rw [hdq] at this; exact Option.some.inj this
            have hcv := INV2.out.vals out'[xn] (List.getElem_mem hxl2)
            have hqn : q'.length ≤ 8 := by have := INV2.out.sum; omega
            have HST := Lib.hid (show Inv n (out'.set tn (out'[xn] + 1)) (q' ++ [(tn : Int)]) from by
              have := INV2.out.step htn hxl (by rw [Int.toNat_natCast, List.getD_eq_getElem?_getD, List.getElem?_eq_getElem htl]; exact hneg)
              rw [Int.toNat_natCast, List.getD_eq_getElem?_getD, List.getElem?_eq_getElem hxl2, Option.getD_some] at this
              exact this)
            have hS5 := HO5.out
            rw [show Value.slice (some ⟨w.heap.size + 1 + 1, 0, none⟩) n n = Value.slice (some ⟨w.heap.size + 1 + 1, 0, none⟩) out'.length n from by rw [hol]] at hS5
            obtain ⟨hO9, hg9⟩ := hS5.set tn (out'[xn] + 1) (by constructor <;> omega)
            rw [hol] at hO9
            have HO9 := Lib.hid hO9
            have HG9 := Lib.hid hg9
            have hq7 := HQ5.out.kept (w1 := wr.setCell ⟨w.heap.size + 1 + 1, tn, none⟩ (.int .i64 (out'[xn] + 1))) fun k hk => heap_setCell_other wr ⟨w.heap.size + 1 + 1, tn, none⟩ k _ (by have := (HQ5.out.lt k hk).1; show k ≠ w.heap.size + 1 + 1; omega)
            have HQ7 := Lib.hid hq7
            have hszc : (wr.setCell ⟨w.heap.size + 1 + 1, tn, none⟩ (.int .i64 (out'[xn] + 1))).heap.size = wr.heap.size := by simp
            have HSZC := Lib.hid hszc
            clear hRX3 hKq hdq hS5 hO9 hg9 hq7 hszc
            go_wp2_with (at_builtin; refine wpList_append1b rInt w3.heap.size rfl _ _ 31 3 (.int .i64 0) 8 rfl Try.underlying31 info_int rfl (by decide) (by decide) (.slice (some ⟨bq, offq, none⟩) q'.length c7) q' (tn : Int) [.int .i64 tn] rfl _ rfl (by simp) ⟨rfl, ft⟩ HQ7.out (by rw [HSZC.out]; exact Nat.le_trans HSZ.out (Nat.le_trans hb4s HS5.out)) (by omega) ?_; intro v1 w7 hO8 hg8 hbk8)
            have hb7 := HQ5.out.lt bq rfl
            have hsz8 : w4.heap.size ≤ (wr.setCell ⟨w.heap.size + 1 + 1, tn, none⟩ (.int .i64 (out'[xn] + 1))).heap.size := by rw [HSZC.out]; exact HS5.out
            have HL := Lib.hid (⟨hO8, hg8, hbk8⟩ : _ ∧ _ ∧ _)
            clear hO8 hg8 hbk8
            go_wp2
            go_roundg (ts.length - (jj + 1))
            case measure => omega
            case rel =>
              obtain ⟨hO8, hg8, hbk8⟩ := HL.out
              have hsz9 := hg8.size
              have hltw : w.heap.size + 1 + 1 < w2.heap.size := (HO2.out.lt _ rfl).2
              have hb7' : w3.heap.size ≤ bq ∧ bq < wr.heap.size := hb7
              have hcell : ∀ k, k ≠ w.heap.size + 1 + 1 → k ≠ bq → k < wr.heap.size → w7.heap[k]? = wr.heap[k]? := fun k h1 h2 h3 =>
                (hg8.block k (by rw [HSZC.out]; exact h3) (fun q => h2 (by simpa [Value.ownBlock] using q))).trans (heap_setCell_other wr ⟨w.heap.size + 1 + 1, tn, none⟩ k _ h1)
              refine ⟨jj + 1, out'.set tn (out'[xn] + 1), q' ++ [(tn : Int)], by omega, by omega, by go_num, HST, aside (by rw [List.getElem?_append_left hiq]; exact HQI.out),
                aside (HO9.out.grown hg8 (.inr (by simp [Value.ownBlock]; omega))), aside hO8, aside (fun k hk => ?_), aside (fun k h1 h2 => (hcell k (by omega) (by omega) (by have := HSZ.out; have := HS5.out; omega)).trans (HF1.out k h1 h2)),
                aside (fun k h1 h2 => ?_), aside (below_grown (below_grown BW5.out HG9.out BW5.out.size (fun k hk => by cases hk; omega)) hg8 (by rw [HSZC.out]; exact BW5.out.size) (fun k hk => by cases hk; show w.heap.size ≤ bq; omega)), aside (Nat.le_trans hsz8 hsz9), HRX3⟩
              · rcases hbk8 with h | h
                · exact HBK.out k (by rw [← h]; exact hk)
                · rw [h] at hk
                  cases hk
                  exact .inr (by omega)
              · refine (hcell k (by have := BW.out.size; omega) (fun e => ?_) (by have := HS5.out; omega)).trans (HF2.out k h1 h2)
                subst e
                rcases HBK.out k rfl with h | h <;> omega
          · have hRX3 := HRX2.out
            rw [if_neg hneg] at hRX3
            have HRX3 := Lib.hid hRX3
            clear hRX3
            go_wp2
            go_roundg (ts.length - (jj + 1))
            case measure => omega
            case rel => exact ⟨jj + 1, out', q', by omega, by omega, by go_num, INV2, HQI, HO5, HQ5, HBK, HF1, HF2, BW5, HS5, HRX3⟩
        · have hlz2 : ¬ (jj : Int) < (ts.length : Int) := by omega
          obtain rfl : jj = ts.length := by omega
          have hRX := HRX.out
          rw [drop_end, relax] at hRX
          have hRL := HRL.out
          rw [← hRX] at hRL
          have HF := Lib.hid hRL
          have hiq := (List.getElem?_eq_some_iff.1 HQI.out).1
          clear hRX hRL
          go_wp2
          go_roundg (n - (i + 1))
          case measure => have := INV.out.sum; omega
          case rel => exact ⟨i + 1, out', q', by omega, by omega, by go_num, INV2, HO5, HQ5, HF1, BW5, aside (Nat.le_trans HSZ.out (Nat.le_trans hb4s HS5.out)), aside HF.out⟩
    · have hlz : ¬ (i : Int) < (q.length : Int) := by omega
      have hR := HR.out
      rw [show bfs (allSegs l.plans open_) (n - i) i out q = out from by
        cases n - i with
        | zero => rfl
        | succ f => rw [bfs, if_neg hlt]] at hR
      have HF := Lib.hid hR
      clear hR
      go_wp2
      go_ret
      exact ⟨_, rfl, by rw [← HF.out]; exact HOut.out.base (by omega), BW.out⟩
end Go.Proofs.Ytjblfgagafmhcaa.Fw
namespace Go.Proofs.Ytjblfgagafmhcaa.Fw
open Go.RowKit
def stepsL (l : Lan) (open_ : List (List Bool)) (seg : Int) : List Int := bfs (allSegs l.plans open_) l.segs.toNat 0 ((List.replicate l.segs.toNat (-1 : Int)).set seg.toNat 0) [seg]
theorem lensOk_get : ∀ {ps : List Plan} {rs : List (List Bool)}, lensOk ps rs = true → ps.length = rs.length → ∀ (j : Nat) (p : Plan) (r : List Bool), ps[j]? = some p → rs[j]? = some r → r.length = p.ports.length
  | p :: ps, r :: rs, h, hl, 0, p', r', hp, hr => by
    simp only [lensOk, Bool.and_eq_true, decide_eq_true_eq] at h
    cases hp; cases hr
    exact h.1
  | p :: ps, r :: rs, h, hl, j + 1, p', r', hp, hr => by
    simp only [lensOk, Bool.and_eq_true] at h
    exact lensOk_get h.2 (by simpa using hl) j p' r' (by simpa using hp) (by simpa using hr)
  | [], _, _, _, j, p', r', hp, _ => by simp at hp
  | _ :: _, [], _, hl, _, _, _, _, _ => by simp at hl
theorem plansOk_mem {segs : Int} : ∀ {ps : List Plan} {met : List Int}, plansOk segs ps met = true → ∀ p ∈ ps, planOk segs p = true
  | [], _, _, p, hp => by simp at hp
  | q :: ps, met, h, p, hp => by
    rw [plansOk] at h
    split at h
    · cases h
    · split at h
      · rename_i h1 h2
        rcases List.mem_cons.1 hp with rfl | hp
        · exact h2
        · exact plansOk_mem h p hp
      · cases h
theorem planOk_port {segs : Int} {p : Plan} (h : planOk segs p = true) : 1 ≤ p.ports.length ∧ p.ports.length ≤ 8 ∧ ∀ x ∈ p.ports, 0 ≤ x.seg ∧ x.seg < segs ∧ 1 ≤ x.cost ∧ x.cost ≤ 1000 := by
  simp only [planOk, lanIn, Bool.and_eq_true, decide_eq_true_eq, Bool.not_eq_true'] at h
  refine ⟨by omega, by omega, fun x hx => ?_⟩
  have h3 := List.any_eq_false.1 h.2 x hx
  simp only [linkOk, lanIn] at h3
  simp at h3
  omega
theorem openSegs_mem {t : Int} : ∀ {xs : List Link} {rs : List Bool}, t ∈ openSegs xs rs → ∃ x ∈ xs, x.seg = t
  | [], rs, h => by simp [openSegs] at h
  | x :: xs, [], h => by simp [openSegs] at h
  | x :: xs, r :: rs, h => by
    rw [openSegs] at h
    split at h
    · rcases List.mem_cons.1 h with rfl | h
      · exact ⟨x, List.mem_cons_self, rfl⟩
      · obtain ⟨y, hy, e⟩ := openSegs_mem h
        exact ⟨y, List.mem_cons_of_mem _ hy, e⟩
    · obtain ⟨y, hy, e⟩ := openSegs_mem h
      exact ⟨y, List.mem_cons_of_mem _ hy, e⟩
theorem allSegs_mem {r : List Int} : ∀ {ps : List Plan} {rs : List (List Bool)}, r ∈ allSegs ps rs → ∃ p ∈ ps, ∃ o ∈ rs, r = openSegs p.ports o
  | [], rs, h => by simp [allSegs] at h
  | p :: ps, [], h => by simp [allSegs] at h
  | p :: ps, o :: rs, h => by
    rw [allSegs] at h
    rcases List.mem_cons.1 h with rfl | h
    · exact ⟨p, List.mem_cons_self, o, List.mem_cons_self, rfl⟩
    · obtain ⟨q, hq, s, hs, e⟩ := allSegs_mem h
      exact ⟨q, List.mem_cons_of_mem _ hq, s, List.mem_cons_of_mem _ hs, e⟩
structure MayOk (l : Lan) (open_ : List (List Bool)) : Prop where
  segs1 : 1 ≤ l.segs
  segs8 : l.segs ≤ 8
  plans6 : l.plans.length ≤ 6
  hosts8 : l.hosts.length ≤ 8
  plans : ∀ p ∈ l.plans, planOk l.segs p = true
  len : open_.length = l.plans.length
  lens : ∀ (j : Nat) (p : Plan) (r : List Bool), l.plans[j]? = some p → open_[j]? = some r → r.length = p.ports.length
theorem mayOk_of {l : Lan} {open_ : List (List Bool)} (h : mayOk l open_ = true) : MayOk l open_ := by
  simp only [mayOk, lanRight, lanIn, Bool.and_eq_true, decide_eq_true_eq] at h
  obtain ⟨⟨⟨⟨⟨⟨⟨h1, h2⟩, h3⟩, h4⟩, h5⟩, h6⟩, h7⟩, h8⟩ := h
  exact ⟨h1, h2, h3, h4, plansOk_mem h5, h7, lensOk_get h8 h7.symm⟩
theorem MayOk.segsIn {l : Lan} {open_ : List (List Bool)} (h : MayOk l open_) : ∀ r ∈ allSegs l.plans open_, r.length ≤ 8 ∧ ∀ x ∈ r, 0 ≤ x ∧ x < l.segs := fun r hr => by
  obtain ⟨p, hp, o, _, rfl⟩ := allSegs_mem hr
  obtain ⟨_, h8, h9⟩ := planOk_port (h.plans p hp)
  refine ⟨Nat.le_trans (openSegs_length _ _) h8, fun x hx => ?_⟩
  obtain ⟨y, hy, rfl⟩ := openSegs_mem hx
  exact ⟨(h9 y hy).1, (h9 y hy).2.1⟩
theorem steps_full (l : Lan) (A1 A2 A3 : Option Addr) (c1 c2 c3 : Nat) (open_ : List (List Bool)) (seg : Int) (w : World) (h1 : Sl rPlan w A1 c1 l.plans) (h3 : Sl (rSl rBool) w A3 c3 open_)
    (hm : mayOk l open_ = true) (h0 : 0 ≤ seg) (hs : seg < l.segs) :
    Calls Try.prog 78 #[lanV l A1 A2 c1 c2, .slice A3 open_.length c3, .int .i64 seg] w fun e w' => ∃ v, e = .returned v ∧ Own rInt 3 w w' w.heap.size v (stepsL l open_ seg) ∧ Below w.heap.size w w' := by
  have h := mayOk_of hm
  have g1 := h.segs1
  have g2 := h.segs8
  obtain ⟨s, rfl⟩ := Int.eq_ofNat_of_zero_le h0
  have := steps_any l A1 A2 A3 c1 c2 c3 open_ l.segs.toNat s w h1 h3 h.len h.plans6 (fun j p r hp hr => ⟨h.lens j p r hp hr, (planOk_port (h.plans p (List.mem_of_getElem? hp))).2.1⟩)
    (by omega) (by omega) (by omega) (by omega) (fun r hr x hx => by have := (h.segsIn r hr).2 x hx; omega) (fun r hr => (h.segsIn r hr).1)
  simpa [stepsL] using this
end Go.Proofs.Ytjblfgagafmhcaa.Fw
namespace Go.Proofs.Ytjblfgagafmhcaa.K
open Go.RowKit Go.Proofs.YtjblfgagafmhcaaW.PrintWords Go.Proofs.YtjblfgagafmhcaaW.PrintLast Go.Proofs.YtjblfgagafmhcaaW.PrintMore
attribute [local go_sem] max2_int min2_int max_two min_two max_three min_three max_four min_four   -- for this text's walks alone
set_option linter.unusedVariables false
set_option linter.unusedSimpArgs false
noncomputable section
open Classical in
noncomputable def flood_steps.f (a0_0 : Int) (l0_1 : List (S64)) (l0_2 : List (S91)) (l1 : List (List Bool)) (a2 : Int) : Option (List Int) :=
 if (∀ x ∈ l0_1, Fw.okPlan x) ∧ Fw.mayOk ⟨a0_0, l0_1, l0_2⟩ l1 = true ∧ 0 ≤ a2 ∧ a2 < a0_0 then some (Fw.stepsL ⟨a0_0, l0_1, l0_2⟩ l1 a2) else none
set_option maxHeartbeats 1000000 in
set_option maxRecDepth 100000 in
theorem flood_steps.calls (a0_0 : Int) (A0_1 : Option Addr) (c0_1 : Nat) (l0_1 : List (S64)) (A0_2 : Option Addr) (c0_2 : Nat) (l0_2 : List (S91)) (A1 : Option Addr) (c1 : Nat) (l1 : List (List Bool)) (a2 : Int) (r : List Int) (w : World) (hr0_1 : Kd.C k64 w A0_1 l0_1.length l0_1) (hc0_1 : l0_1.length ≤ c0_1) (hr0_2 : Kd.C k91 w A0_2 l0_2.length l0_2) (hc0_2 : l0_2.length ≤ c0_2) (hr1 : Kd.C (Kd.slice 4 Kd.bool) w A1 l1.length l1) (hc1 : l1.length ≤ c1) (h : flood_steps.f a0_0 l0_1 l0_2 l1 a2 = some r) :
  Calls Try.prog 78 #[.agg #[.int .i64 a0_0, .slice A0_1 l0_1.length c0_1, .slice A0_2 l0_2.length c0_2], .slice A1 l1.length c1, .int .i64 a2] w fun e w' => ∃ v0_ : Value, e = .returned (v0_) ∧ Kd.R (Kd.int .i64) 3 w' w.heap.size (fun _ => True) v0_ r ∧ Below w.heap.size w w' := by
 unfold flood_steps.f at h
 split at h
 ·rename_i ok
  obtain rfl := Option.some.inj h
  refine (Fw.steps_full ⟨a0_0, l0_1, l0_2⟩ A0_1 A0_2 A1 c0_1 c0_2 c1 l1 a2 w (Fw.slPlan hr0_1 hc0_1 ok.1) (Fw.slBools hr1 hc1) ok.2.1 ok.2.2.1 ok.2.2.2).mono ?_
  rintro e w' ⟨v, rfl, ho, hb⟩
  exact ⟨v, rfl, Fw.R_ints ho, hb⟩
 ·cases h
end
end Go.Proofs.Ytjblfgagafmhcaa.K
