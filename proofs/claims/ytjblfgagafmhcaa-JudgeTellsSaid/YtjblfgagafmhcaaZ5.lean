/- Part 5 of the proof of one statement: what is written for it by hand and by a program of this seat's, over the given program's form. Conditions: none. -/
import Derived.Test.YtjblfgagafmhcaaZ4
import Derived.Test.YtjblfgagafmhcaaProg
import Derived.Test.YtjblfgagafmhcaaZ0
import Derived.Laws.OwnMore
import Derived.Maps.AppendAt
set_option linter.unusedVariables false
set_option linter.unusedSimpArgs false
namespace Go.Proofs.Ytjblfgagafmhcaa.Fw
open Go.RowKit
set_option maxHeartbeats 1000000 in
set_option maxRecDepth 100000 in
theorem indexFunc_Copy (g : Nat) (lb : Array Value) (eg : Enters Try.prog g) (p : Copy → Bool) (A : Option Addr) (c : Nat) (xs : List Copy) (w : World)
    (hS : Sl rCopy w A c xs) (hp : PredOn Try.prog g lb rCopy p w) :
    Calls Try.prog 82 #[.slice A xs.length c, .func (.func g) #[] lb] w fun e w' => e = .returned (.int .i64 (idxP p xs 0)) ∧ Below w.heap.size w w' := by
  have hn := hS.bound
  generalize hL : xs.length = n at hn
  have HL := Lib.hid hL
  clear hL
  have HS := Lib.hid hS
  clear hS
  have HP := Lib.hid hp
  clear hp
  have eg' : ∀ args w, Sem.run Try.prog (callFunc g args) w = .ok (.enter g args) w := eg
  go_enter Try.func82, Try.ntmps82
  go_wp2
  go_loopg [5, 8] n (fun gg _ s8 wr => ∃ kk : Nat, kk ≤ n ∧ n - kk ≤ gg ∧ s8 = .int .i64 kk ∧ Aside (Below w.heap.size w wr) ∧ Aside (idxP p (xs.drop kk) kk = idxP p xs 0))
  case atStart => exact ⟨0, Nat.zero_le _, by omega, rfl, Below.refl _ w, rfl⟩
  case round =>
    obtain ⟨kk, hkk, hg, rfl, BW, A⟩ := hrel
    by_cases hlt : kk < n
    · have hlz : (kk : Int) < (n : Int) := by omega
      obtain ⟨b, off, x, rfl, hb, hd, hK, f0, f1, f2, f3, f4, q0, q1, q2, q3, q4⟩ := HS.out.atCopy BW.out kk (by rw [HL.out]; exact hlt)
      have hcall := HP.out wr x _ BW.out (rCopy.below BW.out hK)
      have A1 := A.out
      rw [drop_of_get hd, idxP] at A1
      have HA := Lib.hid A1
      clear A1 A hd hK
      simp only [rCopy] at hcall
      cases hq : p x
      all_goals
        have HA1 := HA.out
        rw [hq] at HA1 hcall
        have HA2 := Lib.hid HA1
        have HC := Lib.hid hcall
        clear HA1 hcall hq
        go_wp2_with (go_at_fn g; refine HC.out.mono ?_; rintro e w' ⟨rfl, hb'⟩)
      · go_roundg (n - (kk + 1))
        case measure => omega
        case rel => exact ⟨kk + 1, by omega, by omega, by go_num, hb', HA2.out⟩
      · go_ret
        exact ⟨ret_int HA2.out, hb'⟩
    · have hlz : ¬ (kk : Int) < (n : Int) := by omega
      obtain rfl : kk = n := by omega
      have h1 := A.out
      rw [show kk = xs.length from HL.out.symm, drop_end, idxP] at h1
      have H1 := Lib.hid h1
      clear h1
      go_wp2
      go_ret
      exact ⟨ret_int H1.out, BW.out⟩
set_option maxHeartbeats 1000000 in
theorem containsFunc_Copy (g : Nat) (lb : Array Value) (eg : Enters Try.prog g) (p : Copy → Bool) (A : Option Addr) (c : Nat) (xs : List Copy) (w : World)
    (hS : Sl rCopy w A c xs) (hp : PredOn Try.prog g lb rCopy p w) :
    Calls Try.prog 45 #[.slice A xs.length c, .func (.func g) #[] lb] w fun e w' => e = .returned (.bool (xs.any p)) ∧ Below w.heap.size w w' := by
  have HS := Lib.hid hS
  clear hS
  have HP := Lib.hid hp
  clear hp
  go_enter Try.func45, Try.ntmps45
  go_wp2_with (go_at_call 82; refine (indexFunc_Copy g lb eg p _ _ xs _ HS.out HP.out).mono ?_; rintro e w' ⟨rfl, hb'⟩)
  go_ret
  exact ⟨ret_bool (idxP_any p xs 0), hb'⟩
set_option maxHeartbeats 1000000 in
set_option maxRecDepth 100000 in
theorem indexFunc_Link (g : Nat) (lb : Array Value) (eg : Enters Try.prog g) (p : Link → Bool) (A : Option Addr) (c : Nat) (xs : List Link) (w : World)
    (hS : Sl rLink w A c xs) (hp : PredOn Try.prog g lb rLink p w) :
    Calls Try.prog 143 #[.slice A xs.length c, .func (.func g) #[] lb] w fun e w' => e = .returned (.int .i64 (idxP p xs 0)) ∧ Below w.heap.size w w' := by
  have hn := hS.bound
  generalize hL : xs.length = n at hn
  have HL := Lib.hid hL
  clear hL
  have HS := Lib.hid hS
  clear hS
  have HP := Lib.hid hp
  clear hp
  have eg' : ∀ args w, Sem.run Try.prog (callFunc g args) w = .ok (.enter g args) w := eg
  go_enter Try.func143, Try.ntmps143
  go_wp2
  go_loopg [5, 8] n (fun gg _ s8 wr => ∃ kk : Nat, kk ≤ n ∧ n - kk ≤ gg ∧ s8 = .int .i64 kk ∧ Aside (Below w.heap.size w wr) ∧ Aside (idxP p (xs.drop kk) kk = idxP p xs 0))
  case atStart => exact ⟨0, Nat.zero_le _, by omega, rfl, Below.refl _ w, rfl⟩
  case round =>
    obtain ⟨kk, hkk, hg, rfl, BW, A⟩ := hrel
    by_cases hlt : kk < n
    · have hlz : (kk : Int) < (n : Int) := by omega
      obtain ⟨b, off, x, rfl, hb, hd, hK, f0, f1, q0, q1, q2⟩ := HS.out.atLink BW.out kk (by rw [HL.out]; exact hlt)
      have hcall := HP.out wr x _ BW.out (rLink.below BW.out hK)
      have A1 := A.out
      rw [drop_of_get hd, idxP] at A1
      have HA := Lib.hid A1
      clear A1 A hd hK
      simp only [rLink] at hcall
      cases hq : p x
      all_goals
        have HA1 := HA.out
        rw [hq] at HA1 hcall
        have HA2 := Lib.hid HA1
        have HC := Lib.hid hcall
        clear HA1 hcall hq
        go_wp2_with (go_at_fn g; refine HC.out.mono ?_; rintro e w' ⟨rfl, hb'⟩)
      · go_roundg (n - (kk + 1))
        case measure => omega
        case rel => exact ⟨kk + 1, by omega, by omega, by go_num, hb', HA2.out⟩
      · go_ret
        exact ⟨ret_int HA2.out, hb'⟩
    · have hlz : ¬ (kk : Int) < (n : Int) := by omega
      obtain rfl : kk = n := by omega
      have h1 := A.out
      rw [show kk = xs.length from HL.out.symm, drop_end, idxP] at h1
      have H1 := Lib.hid h1
      clear h1
      go_wp2
      go_ret
      exact ⟨ret_int H1.out, BW.out⟩
set_option maxHeartbeats 1000000 in
theorem containsFunc_Link (g : Nat) (lb : Array Value) (eg : Enters Try.prog g) (p : Link → Bool) (A : Option Addr) (c : Nat) (xs : List Link) (w : World)
    (hS : Sl rLink w A c xs) (hp : PredOn Try.prog g lb rLink p w) :
    Calls Try.prog 111 #[.slice A xs.length c, .func (.func g) #[] lb] w fun e w' => e = .returned (.bool (xs.any p)) ∧ Below w.heap.size w w' := by
  have HS := Lib.hid hS
  clear hS
  have HP := Lib.hid hp
  clear hp
  go_enter Try.func111, Try.ntmps111
  go_wp2_with (go_at_call 143; refine (indexFunc_Link g lb eg p _ _ xs _ HS.out HP.out).mono ?_; rintro e w' ⟨rfl, hb'⟩)
  go_ret
  exact ⟨ret_bool (idxP_any p xs 0), hb'⟩
set_option maxHeartbeats 1000000 in
set_option maxRecDepth 100000 in
theorem indexFunc_int (g : Nat) (lb : Array Value) (eg : Enters Try.prog g) (p : Int → Bool) (A : Option Addr) (c : Nat) (xs : List Int) (w : World)
    (hS : Sl rInt w A c xs) (hp : PredOn Try.prog g lb rInt p w) :
    Calls Try.prog 119 #[.slice A xs.length c, .func (.func g) #[] lb] w fun e w' => e = .returned (.int .i64 (idxP p xs 0)) ∧ Below w.heap.size w w' := by
  have hn := hS.bound
  generalize hL : xs.length = n at hn
  have HL := Lib.hid hL
  clear hL
  have HS := Lib.hid hS
  clear hS
  have HP := Lib.hid hp
  clear hp
  have eg' : ∀ args w, Sem.run Try.prog (callFunc g args) w = .ok (.enter g args) w := eg
  go_enter Try.func119, Try.ntmps119
  go_wp2
  go_loopg [5, 8] n (fun gg _ s8 wr => ∃ kk : Nat, kk ≤ n ∧ n - kk ≤ gg ∧ s8 = .int .i64 kk ∧ Aside (Below w.heap.size w wr) ∧ Aside (idxP p (xs.drop kk) kk = idxP p xs 0))
  case atStart => exact ⟨0, Nat.zero_le _, by omega, rfl, Below.refl _ w, rfl⟩
  case round =>
    obtain ⟨kk, hkk, hg, rfl, BW, A⟩ := hrel
    by_cases hlt : kk < n
    · have hlz : (kk : Int) < (n : Int) := by omega
      obtain ⟨b, off, x, rfl, hb, hd, hK, f0, q0⟩ := HS.out.atInt BW.out kk (by rw [HL.out]; exact hlt)
      have hcall := HP.out wr x _ BW.out (rInt.below BW.out hK)
      have A1 := A.out
      rw [drop_of_get hd, idxP] at A1
      have HA := Lib.hid A1
      clear A1 A hd hK
      simp only [rInt] at hcall
      cases hq : p x
      all_goals
        have HA1 := HA.out
        rw [hq] at HA1 hcall
        have HA2 := Lib.hid HA1
        have HC := Lib.hid hcall
        clear HA1 hcall hq
        go_wp2_with (go_at_fn g; refine HC.out.mono ?_; rintro e w' ⟨rfl, hb'⟩)
      · go_roundg (n - (kk + 1))
        case measure => omega
        case rel => exact ⟨kk + 1, by omega, by omega, by go_num, hb', HA2.out⟩
      · go_ret
        exact ⟨ret_int HA2.out, hb'⟩
    · have hlz : ¬ (kk : Int) < (n : Int) := by omega
      obtain rfl : kk = n := by omega
      have h1 := A.out
      rw [show kk = xs.length from HL.out.symm, drop_end, idxP] at h1
      have H1 := Lib.hid h1
      clear h1
      go_wp2
      go_ret
      exact ⟨ret_int H1.out, BW.out⟩
set_option maxHeartbeats 1000000 in
theorem containsFunc_int (g : Nat) (lb : Array Value) (eg : Enters Try.prog g) (p : Int → Bool) (A : Option Addr) (c : Nat) (xs : List Int) (w : World)
    (hS : Sl rInt w A c xs) (hp : PredOn Try.prog g lb rInt p w) :
    Calls Try.prog 80 #[.slice A xs.length c, .func (.func g) #[] lb] w fun e w' => e = .returned (.bool (xs.any p)) ∧ Below w.heap.size w w' := by
  have HS := Lib.hid hS
  clear hS
  have HP := Lib.hid hp
  clear hp
  go_enter Try.func80, Try.ntmps80
  go_wp2_with (go_at_call 119; refine (indexFunc_int g lb eg p _ _ xs _ HS.out HP.out).mono ?_; rintro e w' ⟨rfl, hb'⟩)
  go_ret
  exact ⟨ret_bool (idxP_any p xs 0), hb'⟩
end Go.Proofs.Ytjblfgagafmhcaa.Fw
namespace Go.Proofs.Ytjblfgagafmhcaa.Fw
open Go.RowKit
def Cells {α : Type} (d : Rp α) (w0 : World) : List α → List Value → Prop
  | [], cs => cs = []
  | x :: xs, cs => ∃ a r, cs = a ++ r ∧ d.K w0 x a ∧ Cells d w0 xs r
theorem Cells.length {α : Type} {d : Rp α} {w0 : World} : ∀ {xs : List α} {cs : List Value}, Cells d w0 xs cs → cs.length = xs.length * d.sz
  | [], cs, h => by simp only [Cells] at h; subst h; simp
  | x :: xs, cs, ⟨a, r, e, h1, h2⟩ => by
    subst e
    rw [List.length_append, d.len h1, h2.length, List.length_cons, Nat.add_mul, Nat.one_mul, Nat.add_comm]
theorem Cells.snoc {α : Type} {d : Rp α} {w0 : World} : ∀ {xs : List α} {cs : List Value}, Cells d w0 xs cs → ∀ {y : α} {a : List Value}, d.K w0 y a → Cells d w0 (xs ++ [y]) (cs ++ a)
  | [], cs, h, y, a, ha => by simp only [Cells] at h; subst h; exact ⟨a, [], by simp, ha, rfl⟩
  | x :: xs, cs, ⟨b, r, e, h1, h2⟩, y, a, ha => by
    subst e
    exact ⟨b, r ++ a, by simp, h1, h2.snoc ha⟩
theorem Cells.append {α : Type} {d : Rp α} {w0 : World} : ∀ {xs : List α} {cs : List Value}, Cells d w0 xs cs → ∀ {ys : List α} {bs : List Value}, Cells d w0 ys bs → Cells d w0 (xs ++ ys) (cs ++ bs)
  | [], cs, h, ys, bs, hb => by simp only [Cells] at h; subst h; simpa using hb
  | x :: xs, cs, ⟨b, r, e, h1, h2⟩, ys, bs, hb => by
    subst e
    exact ⟨b, r ++ bs, by simp, h1, h2.append hb⟩
set_option linter.unusedVariables false in
theorem Cells.below {α : Type} {d : Rp α} {w0 w1 : World} (hb : Below w0.heap.size w0 w1) : ∀ {xs : List α} {cs : List Value}, Cells d w0 xs cs → Cells d w1 xs cs
  | [], cs, h => h
  | x :: xs, cs, ⟨a, r, e, h1, h2⟩ => ⟨a, r, e, d.below hb h1, h2.below hb⟩
theorem Cells.get {α : Type} {d : Rp α} {w0 : World} : ∀ {xs : List α} {cs : List Value}, Cells d w0 xs cs → ∀ (j : Nat) (x : α), xs[j]? = some x → ∃ a, d.K w0 x a ∧ ∀ i v, a[i]? = some v → cs[j * d.sz + i]? = some v
  | [], cs, h, j, x, hj => by simp at hj
  | y :: xs, cs, ⟨a, r, e, h1, h2⟩, 0, x, hj => by
    simp only [List.getElem?_cons_zero, Option.some.injEq] at hj
    subst hj; subst e
    refine ⟨a, h1, fun i v hi => ?_⟩
    have := (List.getElem?_eq_some_iff.1 hi).1
    rw [Nat.zero_mul, Nat.zero_add, List.getElem?_append_left this]; exact hi
  | y :: xs, cs, ⟨a, r, e, h1, h2⟩, j + 1, x, hj => by
    subst e
    obtain ⟨b, hb, hi⟩ := h2.get j x (by simpa using hj)
    refine ⟨b, hb, fun i v hv => ?_⟩
    have hl := d.len h1
    rw [List.getElem?_append_right (by rw [hl, Nat.add_mul, Nat.one_mul]; omega)]
    have := hi i v hv
    rw [show (j + 1) * d.sz + i - a.length = j * d.sz + i by rw [hl, Nat.add_mul, Nat.one_mul]; omega]
    exact this
theorem Cells.one {α : Type} {d : Rp α} {w0 : World} : ∀ {xs : List α} {cs : List Value}, Cells d w0 xs cs → ∀ u ∈ cs, u.oneCell' = true
  | [], cs, h => by simp only [Cells] at h; subst h; simp
  | x :: xs, cs, ⟨a, r, e, h1, h2⟩ => by
    subst e
    intro u hu
    rcases List.mem_append.1 hu with hu | hu
    · exact d.one h1 u hu
    · exact h2.one u hu
def Own {α : Type} (d : Rp α) (e : TypeId) (w0 w : World) (base : Nat) (v : Value) (xs : List α) : Prop :=
  ∃ cs, w.ownsRow base e d.sz v xs.length cs ∧ Cells d w0 xs cs
section
variable {α : Type} {d : Rp α} {e : TypeId} {w0 w w1 : World} {base : Nat} {v : Value} {xs : List α}
theorem Own.nil (d : Rp α) (e : TypeId) (w0 w : World) (base : Nat) : Own d e w0 w base (.slice none 0 0) [] := ⟨[], ⟨by simp, .inl ⟨rfl, rfl⟩⟩, rfl⟩
theorem Own.kept (h : Own d e w0 w base v xs) (hm : ∀ k, v.ownBlock = some k → w1.heap[k]? = w.heap[k]?) : Own d e w0 w1 base v xs := by
  obtain ⟨cs, ⟨h1, h2⟩, hc⟩ := h
  refine ⟨cs, ⟨h1, ?_⟩, hc⟩
  rcases h2 with h2 | ⟨g, cap, cur, rfl, hg, hh, r⟩
  · exact .inl h2
  · exact .inr ⟨g, cap, cur, rfl, hg, (hm g (by simp [Value.ownBlock])).trans hh, r⟩
theorem Own.lt (h : Own d e w0 w base v xs) : ∀ k, v.ownBlock = some k → base ≤ k ∧ k < w.heap.size := by
  obtain ⟨cs, ⟨h1, h2⟩, hc⟩ := h
  rcases h2 with ⟨rfl, _⟩ | ⟨g, cap, cur, rfl, hg, hh, r⟩
  · intro k hk; simp [Value.ownBlock] at hk
  · intro k hk
    obtain rfl : g = k := by simpa [Value.ownBlock] using hk
    exact ⟨hg, (Array.getElem?_eq_some_iff.1 hh).1⟩
theorem Own.below (h : Own d e w0 w base v xs) (hb : Below w.heap.size w w1) : Own d e w0 w1 base v xs := h.kept fun k hk => hb.block k (h.lt k hk).2
theorem Own.alloc (h : Own d e w0 w base v xs) (o : Obj) : Own d e w0 (w.alloc o) base v xs := h.below ((Below.refl _ _).alloc (Nat.le_refl _) o)
theorem Own.grown {row : Option Nat} (h : Own d e w0 w base v xs) (hg : w.grownBy w1 row) (hne : v.ownBlock = none ∨ v.ownBlock ≠ row) : Own d e w0 w1 base v xs := h.kept fun k hk => hg.block k (h.lt k hk).2 (by
  rcases hne with hne | hne
  · rw [hne] at hk; cases hk
  · rw [← hk]; exact hne)
theorem Own.form (h : Own d e w0 w base v xs) : ∃ A c, v = .slice A xs.length c ∧ c ≤ 9223372036854775807 := by
  obtain ⟨cs, ⟨h1, h2⟩, hc⟩ := h
  rcases h2 with ⟨rfl, hn⟩ | ⟨g, cap, cur, rfl, hg, hh, r1, r2, _⟩
  · exact ⟨none, 0, by rw [hn], by omega⟩
  · exact ⟨_, cap, rfl, by simp only [maxLen] at r2; omega⟩
theorem Own.reads (h : Own d e w0 w base v xs) (hb : Below w0.heap.size w0 w) : ∃ A c, v = .slice A xs.length c ∧ Sl d w A c xs := by
  obtain ⟨cs, ⟨h1, h2⟩, hc⟩ := h
  rcases h2 with ⟨rfl, hn⟩ | ⟨g, cap, cur, rfl, hg, hh, r1, r2, r3, r4⟩
  · obtain rfl := List.eq_nil_of_length_eq_zero hn
    exact ⟨none, 0, rfl, Sl.nil _ _ _ _⟩
  · refine ⟨_, cap, rfl, r1, by simp only [maxLen] at r2; omega, fun _ => ⟨g, 0, rfl, (Array.getElem?_eq_some_iff.1 hh).1, fun j x hj => ?_⟩⟩
    obtain ⟨a, ha, hi⟩ := hc.get j x hj
    refine ⟨a, d.below hb ha, fun i u hu => ?_⟩
    have h3 := hi i u hu
    have h4 : cur[j * d.sz + i]? = some u := by
      rw [← r4, List.getElem?_take] at h3
      split at h3
      · simpa using h3
      · cases h3
    rw [Nat.zero_add]
    simp [World.cell?, hh, h4]
end
theorem wpList_append1 {α : Type} {P : Program} {ops : Array Oper} {rest : List Oper} {o : Oper} {a : Act} {Q : Exit → Act → World → Prop} {w0 W : World} (d : Rp α) (base : Nat) (hgd : o.guard = none) (s x : Operand) (t e : TypeId) (z : Value) (bytes : Nat)
    (ho : o.op = .call { callee := .builtin .append, args := #[s, x], argTypes := #[t, t] })
    (ht : P.underlying t = some (.slice e)) (hinfo : (P.info? e).map (fun i => (i.zero, i.size, i.bytes)) = some (some z, d.sz, bytes)) (hz : z.cells.size = d.sz) (hs0 : 0 < d.sz) (hb0 : 0 < bytes)
    (v : Value) (xs : List α) (y : α) (ys : List Value) (hs : a.eval s = v) (hx : a.eval x = .slice (some ⟨W.heap.size, 0, none⟩) 1 1) (hy : d.K w0 y ys)
    (HO : Own d e w0 W base v xs) (hbase : base ≤ W.heap.size) (hl : (xs.length + 1) * bytes ≤ 140737488355328)
    (h : ∀ v1 w1, Own d e w0 w1 base v1 (xs ++ [y]) → W.grownBy w1 v.ownBlock → wpList P ops Q rest (a.put o.dst v1) w1) :
    wpList P ops Q (o :: rest) a (W.alloc (.cells ys.toArray e)) := by
  obtain ⟨i0, hi, hzz⟩ := Option.map_eq_some_iff.1 hinfo
  simp only [Prod.mk.injEq] at hzz
  obtain ⟨hz0, hz1, hz2⟩ := hzz
  have hlen : xs.length + 1 ≤ 140737488355328 := Nat.le_trans (Nat.le_mul_of_pos_right _ hb0) hl
  obtain ⟨cs, hown, hc⟩ := HO
  have hown' : (W.alloc (.cells ys.toArray e)).ownsRow base e d.sz v xs.length cs := hown.kept (World.grownBy_alloc W _ none) (by cases v.ownBlock <;> simp)
  refine wpList_append_own (W.alloc (.cells ys.toArray e)) hgd s x t ho base e i0 z d.sz bytes ht hi hz0 hz1 hz2 hz hs0 v xs.length cs hs hown' ⟨W.heap.size, 0, none⟩ 1 1 ys hx (by rw [d.len hy, Nat.one_mul])
    (fun j u hj => by
      rw [add_none, Nat.zero_add]
      exact blk_cell (blk_new W _) (by simpa using hj)) (d.one hy) (by simp only [maxLen]; omega) hl (by simp; omega) ?_
  intro v1 w1 hown1 hg _
  exact h v1 w1 ⟨_, by rw [List.length_append]; exact hown1, hc.snoc hy⟩ (World.grownBy.trans (World.grownBy_alloc W _ _) hg)
theorem wpList_appendN {α : Type} {P : Program} {ops : Array Oper} {rest : List Oper} {o : Oper} {a : Act} {Q : Exit → Act → World → Prop} {w0 W : World} (d : Rp α) (base : Nat) (hgd : o.guard = none) (s x : Operand) (t e : TypeId) (z : Value) (bytes : Nat)
    (ho : o.op = .call { callee := .builtin .append, args := #[s, x], argTypes := #[t, t] })
    (ht : P.underlying t = some (.slice e)) (hinfo : (P.info? e).map (fun i => (i.zero, i.size, i.bytes)) = some (some z, d.sz, bytes)) (hz : z.cells.size = d.sz) (hs0 : 0 < d.sz) (hb0 : 0 < bytes)
    (v : Value) (xs ys : List α) (A : Option Addr) (m c : Nat) (hs : a.eval s = v) (hx : a.eval x = .slice A m c) (hm : m = ys.length) (cs' : List Value) (hcs : Cells d w0 ys cs') (hrd : ∃ b off, A = some ⟨b, off, none⟩ ∧ ∀ i u, cs'[i]? = some u → W.cell? ⟨b, off + i, none⟩ = some u)
    (HO : Own d e w0 W base v xs) (hbase : base ≤ W.heap.size) (hl : (xs.length + ys.length) * bytes ≤ 140737488355328)
    (h : ∀ v1 w1, Own d e w0 w1 base v1 (xs ++ ys) → W.grownBy w1 v.ownBlock → wpList P ops Q rest (a.put o.dst v1) w1) :
    wpList P ops Q (o :: rest) a W := by
  obtain ⟨i0, hi, hzz⟩ := Option.map_eq_some_iff.1 hinfo
  simp only [Prod.mk.injEq] at hzz
  obtain ⟨hz0, hz1, hz2⟩ := hzz
  have hlen : xs.length + ys.length ≤ 140737488355328 := Nat.le_trans (Nat.le_mul_of_pos_right _ hb0) hl
  obtain ⟨cs, hown, hc⟩ := HO
  obtain ⟨b, off, rfl, hcell⟩ := hrd
  refine wpList_append_own W hgd s x t ho base e i0 z d.sz bytes ht hi hz0 hz1 hz2 hz hs0 v xs.length cs hs hown ⟨b, off, none⟩ m c cs' hx (by rw [hcs.length, hm])
    (fun j u hj => by rw [add_none]; exact hcell j u hj) hcs.one (by simp only [maxLen]; omega) (by rw [hm]; exact hl) hbase ?_
  intro v1 w1 hown1 hg _
  exact h v1 w1 ⟨_, by rw [List.length_append, ← hm]; exact hown1, hc.append hcs⟩ hg
end Go.Proofs.Ytjblfgagafmhcaa.Fw
namespace Go.Proofs.Ytjblfgagafmhcaa.Fw
open Go.RowKit Go.MapKept
open Go.Maps (Keyed)
open Go.ChangeMaps (setBlock)
def MapF {κ : Type} (enc : κ → Value) (w : World) (b n : Nat) (f : κ → Option Value) : Prop :=
  ∃ es clock, w.heap[b]? = some (.map es clock) ∧ es.size ≤ n ∧ Stamped es clock ∧ (∀ e ∈ es.toList, ∃ x, e.key = enc x ∧ f x = some e.val) ∧ ∀ x v, f x = some v → ∃ e ∈ es.toList, e.key = enc x
structure KeyOk {κ : Type} (P : Program) (k : TypeId) (enc : κ → Value) (ok : κ → Prop) : Prop where
  law : Keyed P k
  of : ∀ x, ok x → ∃ l, keyOf P k (enc x) = some l
  inj : ∀ x y, enc x = enc y → x = y
section
variable {κ : Type} {P : Program} {k : TypeId} {enc : κ → Value} {ok : κ → Prop} {w : World} {b n : Nat} {f : κ → Option Value}
theorem MapF.made (enc : κ → Value) (w : World) : MapF enc (w.alloc (.map #[] 0)) w.heap.size 0 (fun _ => none) :=
  ⟨#[], 0, (heap_alloc w _).1, Nat.le_refl _, stamped_empty 0, by simp, by simp⟩
theorem MapF.lt (h : MapF enc w b n f) : b < w.heap.size := by
  obtain ⟨es, clock, hb, _⟩ := h
  exact (Array.getElem?_eq_some_iff.1 hb).1
theorem MapF.kept {w' : World} (h : MapF enc w b n f) (hb : w'.heap[b]? = w.heap[b]?) : MapF enc w' b n f := by
  obtain ⟨es, clock, h1, h2⟩ := h
  exact ⟨es, clock, hb.trans h1, h2⟩
theorem MapF.below {w' : World} (h : MapF enc w b n f) (hb : Below w.heap.size w w') : MapF enc w' b n f := h.kept (hb.block b h.lt)
theorem MapF.alloc (h : MapF enc w b n f) (o : Obj) : MapF enc (w.alloc o) b n f := h.below ((Below.refl _ _).alloc (Nat.le_refl _) o)
theorem MapF.mono {n' : Nat} (h : MapF enc w b n f) (hn : n ≤ n') : MapF enc w b n' f := by
  obtain ⟨es, clock, h1, h2, h3⟩ := h
  exact ⟨es, clock, h1, Nat.le_trans h2 hn, h3⟩
theorem MapF.find (K : KeyOk P k enc ok) {es : Array MapEntry} (hok : ∀ e ∈ es.toList, ∃ x, e.key = enc x ∧ f x = some e.val) (hall : ∀ x v, f x = some v → ok x)
    (hback : ∀ x v, f x = some v → ∃ e ∈ es.toList, e.key = enc x) (w : World) (x : κ) (hx : ok x) :
    ((Instr.findKey k (enc x) es.toList).run P w = .ok none w ∧ f x = none ∧ ∀ e ∈ es.toList, e.key ≠ enc x) ∨ ∃ j e, (Instr.findKey k (enc x) es.toList).run P w = .ok (some (j, e.val)) w ∧ es.toList[j]? = some e ∧ e.key = enc x ∧ f x = some e.val := by
  obtain ⟨l, hl⟩ := K.of x hx
  rcases K.law.find w hl es.toList (fun e he => by
    obtain ⟨y, hy, hf⟩ := hok e he
    rw [hy]
    exact K.of y (hall y _ hf)) with ⟨h1, h2⟩ | ⟨j, e, h1, h2, h3⟩
  · refine .inl ⟨h1, ?_, h2⟩
    cases hf : f x with
    | none => rfl
    | some v =>
      obtain ⟨e, he, hk⟩ := hback x v hf
      exact absurd hk (h2 e he)
  · refine .inr ⟨j, e, h1, h2, h3, ?_⟩
    obtain ⟨y, hy, hf⟩ := hok e (List.mem_of_getElem? h2)
    rw [h3] at hy
    rw [K.inj x y hy]
    exact hf
theorem MapF.look (K : KeyOk P k enc ok) (hall : ∀ x v, f x = some v → ok x) {t e : TypeId} (ht : P.underlying t = some (.map k e)) {z : Value} (hz : (zeroValue e).run P w = .ok z w) (h : MapF enc w b n f) (x : κ) (hx : ok x) (c : Bool) :
    (Instr.lookup t (.map (some b)) (enc x) c).run P w = .ok (if c then .tuple #[(f x).getD z, .bool (f x).isSome] else (f x).getD z) w := by
  obtain ⟨es, clock, hb, hn, hs, h1, h2⟩ := h
  obtain ⟨l, hl⟩ := K.of x hx
  rcases MapF.find K h1 hall h2 w x hx with ⟨r1, r2, _⟩ | ⟨j, e0, r1, _, _, r2⟩
  · rw [r2]
    simp [Instr.lookup, run_underlying ht, MapKept.run_getObj_map hb, K.law.check w _ hl, r1, hz, Result.andThen]
  · rw [r2]
    simp [Instr.lookup, run_underlying ht, MapKept.run_getObj_map hb, K.law.check w _ hl, r1, Result.andThen]
open Classical in
noncomputable def put (f : κ → Option Value) (x : κ) (v : Value) : κ → Option Value := fun y => if y = x then some v else f y
theorem put_same (f : κ → Option Value) (x : κ) (v : Value) : put f x v x = some v := by simp [put]
theorem put_other (f : κ → Option Value) {x y : κ} (v : Value) (h : y ≠ x) : put f x v y = f y := by simp [put, h]
theorem grownBy_setBlock {es : Array MapEntry} {clock : Nat} (hb : w.heap[b]? = some (.map es clock)) (o : Obj) : w.grownBy (setBlock w b o) (some b) :=
  ⟨rfl, rfl, rfl, by simp [setBlock], fun i _ hne => by
    show (w.heap.setIfInBounds b o)[i]? = _
    exact (heap_set hb).2 i (fun e => hne (by rw [e]))⟩
theorem MapF.store (K : KeyOk P k enc ok) (hall : ∀ x v, f x = some v → ok x) {t e : TypeId} (ht : P.underlying t = some (.map k e)) (h : MapF enc w b n f) (x : κ) (hx : ok x) (v : Value) :
    ∃ w', (Instr.mapUpdate t (.map (some b)) (enc x) v).run P w = .ok () w' ∧ MapF enc w' b (n + 1) (put f x v) ∧ w.grownBy w' (some b) := by
  obtain ⟨es, clock, hb, hn, hs, h1, h2⟩ := h
  obtain ⟨l, hl⟩ := K.of x hx
  rcases MapF.find K h1 hall h2 w x hx with ⟨r1, r2, r3⟩ | ⟨j, e0, r1, r3, r4, r2⟩
  · refine ⟨setBlock w b (.map (es.push ⟨enc x, v, clock⟩) (clock + 1)), ?_, ⟨_, _, (heap_set hb).1, by simp; omega, stamped_push hs r3, ?_, ?_⟩, grownBy_setBlock hb _⟩
    · simp [Instr.mapUpdate, run_underlying ht, MapKept.run_getObj_map hb, K.law.check w false hl, r1, MapKept.run_setObj_map _ hb, Result.andThen, setBlock]
    · intro e' he'
      simp only [Array.toList_push, List.mem_append, List.mem_singleton] at he'
      rcases he' with he' | rfl
      · obtain ⟨y, hy, hf⟩ := h1 e' he'
        refine ⟨y, hy, ?_⟩
        rw [put_other f v (fun e => by subst e; rw [r2] at hf; cases hf)]
        exact hf
      · exact ⟨x, rfl, put_same f x v⟩
    · intro y u hy
      by_cases e : y = x
      · subst e
        exact ⟨⟨enc y, v, clock⟩, by simp, rfl⟩
      · rw [put_other f v e] at hy
        obtain ⟨e', he', hk⟩ := h2 y u hy
        exact ⟨e', by simp [Array.toList_push] at he' ⊢; exact .inl he', hk⟩
  · have hj : es[j]? = some e0 := by simpa using r3
    have hlist : (es.modify j (fun e' => { e' with key := enc x, val := v })).toList = es.toList.set j { e0 with key := enc x, val := v } := by rw [Array.toList_modify, Go.ChangeMaps.modify_eq_set _ _ _ _ r3]
    have hkeyf : ∀ e', es[j]? = some e' → ({ e' with key := enc x, val := v } : MapEntry).key = e'.key := fun e' he' => by rw [hj] at he'; cases he'; exact r4.symm
    refine ⟨setBlock w b (.map (es.modify j (fun e' => { e' with key := enc x, val := v })) clock), ?_, ⟨_, _, (heap_set hb).1, by simp; omega, stamped_modify hs _ _ (fun _ _ => rfl) (fun e' _ he' => hkeyf e' he'), ?_, ?_⟩, grownBy_setBlock hb _⟩
    · simp [Instr.mapUpdate, run_underlying ht, MapKept.run_getObj_map hb, K.law.check w false hl, r1, hj, r4, K.law.stays w hl, MapKept.run_setObj_map _ hb, Result.andThen, setBlock]
    · intro e' he'
      rw [hlist] at he'
      obtain ⟨i, hi, ex⟩ := List.getElem_of_mem he'
      rw [List.getElem_set] at ex
      split at ex
      · subst ex
        exact ⟨x, rfl, put_same f x v⟩
      · rename_i hne
        have hi' : i < es.toList.length := by simpa using hi
        have hm : e' ∈ es.toList := ex ▸ List.getElem_mem hi'
        obtain ⟨y, hy, hf⟩ := h1 e' hm
        refine ⟨y, hy, ?_⟩
        rw [put_other f v (fun e => ?_)]
        · exact hf
        · subst e
          have hnd := hs.2.2
          have hjl := (List.getElem?_eq_some_iff.1 r3).1
          have e1 : (es.toList.map (·.key))[i]? = (es.toList.map (·.key))[j]? := by
            rw [List.getElem?_map, List.getElem?_map, r3, List.getElem?_eq_getElem hi', ex]
            simp [hy, r4]
          have := (List.getElem?_inj (by simpa using hi') hnd).1 e1
          exact hne this.symm
    · intro y u hy
      rw [hlist]
      by_cases e : y = x
      · subst e
        exact ⟨{ e0 with key := enc y, val := v }, List.mem_iff_getElem.2 ⟨j, by simpa using (List.getElem?_eq_some_iff.1 r3).1, by simp⟩, rfl⟩
      · rw [put_other f v e] at hy
        obtain ⟨e', he', hk⟩ := h2 y u hy
        obtain ⟨i, hi, ex⟩ := List.getElem_of_mem he'
        have hne : j ≠ i := fun q => by
          subst q
          rw [List.getElem?_eq_getElem hi, ex] at r3
          cases r3
          rw [hk] at r4
          exact e (K.inj _ _ r4)
        exact ⟨e', List.mem_iff_getElem.2 ⟨i, by simpa using hi, by rw [List.getElem_set, if_neg hne]; exact ex⟩, hk⟩
end
theorem MapF.entry {κ : Type} {P : Program} {k : TypeId} {enc : κ → Value} {ok : κ → Prop} {w : World} {b n : Nat} {f : κ → Option Value} (K : KeyOk P k enc ok) (hall : ∀ x v, f x = some v → ok x) {t e : TypeId} (ht : P.underlying t = some (.map k e)) {z : Value} (hz : (zeroValue e).run P w = .ok z w) (h : MapF enc w b n f) (x : κ) (hx : ok x) :
    ∃ w' st, (Instr.mapEntry t (.map (some b)) (enc x)).run P w = .ok (.tuple #[(f x).getD z, .int .i64 st]) w' ∧ MapF enc w' b (n + 1) (put f x ((f x).getD z)) ∧ w.grownBy w' (some b) ∧
      ∀ u, ∃ w'', (Instr.entryStore t (.map (some b)) (.int .i64 st) u).run P w' = .ok () w'' ∧ MapF enc w'' b (n + 1) (put f x u) ∧ w'.grownBy w'' (some b) := by
  have store : ∀ (es : Array MapEntry) (clock j : Nat) (e0 : MapEntry) (w' : World) (g : κ → Option Value), w'.heap[b]? = some (.map es clock) → es.size ≤ n + 1 → Stamped es clock → (∀ e ∈ es.toList, ∃ y, e.key = enc y ∧ g y = some e.val) →
      (∀ y v, g y = some v → ∃ e ∈ es.toList, e.key = enc y) → es.toList[j]? = some e0 → e0.key = enc x →
      ∀ u, ∃ w'', (Instr.entryStore t (.map (some b)) (.int .i64 e0.born) u).run P w' = .ok () w'' ∧ MapF enc w'' b (n + 1) (put g x u) ∧ w'.grownBy w'' (some b) := by
    intro es clock j e0 w' g hb hsz hs h1 h2 hj hk u
    have hjl := (List.getElem?_eq_some_iff.1 hj).1
    have hja : es[j]? = some e0 := by simpa using hj
    have hfind : es.findIdx? (fun e => (e.born : Int) == (e0.born : Int)) = some j := by
      rw [show es.findIdx? (fun e => (e.born : Int) == (e0.born : Int)) = es.toList.findIdx? (fun e => (e.born : Int) == (e0.born : Int)) from by cases es; simp, List.findIdx?_eq_some_iff_getElem]
      refine ⟨hjl, ?_, ?_⟩
      · have : es.toList[j] = e0 := (List.getElem?_eq_some_iff.1 hj).2
        simp [this]
      · intro i hi
        have hil : i < es.toList.length := by omega
        have hnd := hs.2.1
        have : ¬ es.toList[i].born = e0.born := fun q => by
          have e1 : (es.toList.map (·.born))[i]? = (es.toList.map (·.born))[j]? := by
            rw [List.getElem?_map, List.getElem?_map, hj, List.getElem?_eq_getElem hil]; simpa using q
          have := (List.getElem?_inj (by simpa using hil) hnd).1 e1
          omega
        simp only [beq_iff_eq]
        intro q
        exact this (by exact_mod_cast q)
    have hlist : (es.modify j (fun e' => { e' with val := u })).toList = es.toList.set j { e0 with val := u } := by rw [Array.toList_modify, Go.ChangeMaps.modify_eq_set _ _ _ _ hj]
    refine ⟨setBlock w' b (.map (es.modify j (fun e' => { e' with val := u })) clock), ?_, ⟨_, _, (heap_set hb).1, by simpa using hsz, stamped_modify hs _ _ (fun _ _ => rfl) (fun _ _ _ => rfl), ?_, ?_⟩, grownBy_setBlock hb _⟩
    · simp [Instr.entryStore, MapKept.run_getObj_map hb, asInt, asIntOf, hfind, MapKept.run_setObj_map _ hb, Result.andThen, setBlock]
    · intro e' he'
      rw [hlist] at he'
      obtain ⟨i, hi, ex⟩ := List.getElem_of_mem he'
      rw [List.getElem_set] at ex
      split at ex
      · subst ex
        exact ⟨x, hk, put_same g x u⟩
      · rename_i hne
        have hi' : i < es.toList.length := by simpa using hi
        have hm : e' ∈ es.toList := ex ▸ List.getElem_mem hi'
        obtain ⟨y, hy, hf⟩ := h1 e' hm
        refine ⟨y, hy, ?_⟩
        rw [put_other g u (fun e => ?_)]
        · exact hf
        · subst e
          have e1 : (es.toList.map (·.key))[i]? = (es.toList.map (·.key))[j]? := by
            rw [List.getElem?_map, List.getElem?_map, hj, List.getElem?_eq_getElem hi', ex]
            simp [hy, hk]
          exact hne ((List.getElem?_inj (by simpa using hi') hs.2.2).1 e1).symm
    · intro y v hy
      rw [hlist]
      by_cases e : y = x
      · subst e
        exact ⟨{ e0 with val := u }, List.mem_iff_getElem.2 ⟨j, by simpa using hjl, by simp⟩, hk⟩
      · rw [put_other g u e] at hy
        obtain ⟨e', he', hke⟩ := h2 y v hy
        obtain ⟨i, hi, ex⟩ := List.getElem_of_mem he'
        have hne : j ≠ i := fun q => by
          subst q
          rw [List.getElem?_eq_getElem hi, ex] at hj
          cases hj
          rw [hke] at hk
          exact e (K.inj _ _ hk)
        exact ⟨e', List.mem_iff_getElem.2 ⟨i, by simpa using hi, by rw [List.getElem_set, if_neg hne]; exact ex⟩, hke⟩
  have put_put : ∀ (a u : Value), put (put f x a) x u = put f x u := fun a u => by
    funext y
    by_cases e : y = x
    · subst e; rw [put_same, put_same]
    · rw [put_other _ _ e, put_other _ _ e, put_other _ _ e]
  obtain ⟨es, clock, hb, hn, hs, h1, h2⟩ := h
  obtain ⟨l, hl⟩ := K.of x hx
  rcases MapF.find K h1 hall h2 w x hx with ⟨r1, r2, r3⟩ | ⟨j, e0, r1, r3, r4, r2⟩
  · have h1' : ∀ e' ∈ (es.push ⟨enc x, z, clock⟩).toList, ∃ y, e'.key = enc y ∧ put f x z y = some e'.val := by
      intro e' he'
      simp only [Array.toList_push, List.mem_append, List.mem_singleton] at he'
      rcases he' with he' | rfl
      · obtain ⟨y, hy, hf⟩ := h1 e' he'
        refine ⟨y, hy, ?_⟩
        rw [put_other f z (fun e => by subst e; rw [r2] at hf; cases hf)]
        exact hf
      · exact ⟨x, rfl, put_same f x z⟩
    have h2' : ∀ y u, put f x z y = some u → ∃ e ∈ (es.push ⟨enc x, z, clock⟩).toList, e.key = enc y := by
      intro y u hy
      by_cases e : y = x
      · subst e
        exact ⟨⟨enc y, z, clock⟩, by simp, rfl⟩
      · rw [put_other f z e] at hy
        obtain ⟨e', he', hk⟩ := h2 y u hy
        exact ⟨e', by simp [Array.toList_push] at he' ⊢; exact .inl he', hk⟩
    refine ⟨setBlock w b (.map (es.push ⟨enc x, z, clock⟩) (clock + 1)), clock, ?_, ?_, grownBy_setBlock hb _, ?_⟩
    · simp [Instr.mapEntry, run_underlying ht, MapKept.run_getObj_map hb, K.law.check w false hl, r1, hz, MapKept.run_setObj_map _ hb, Result.andThen, setBlock, r2, goInt]
    · rw [r2]
      exact ⟨_, _, (heap_set hb).1, by simp; omega, stamped_push hs r3, h1', h2'⟩
    · intro u
      have := store (es.push ⟨enc x, z, clock⟩) (clock + 1) es.size ⟨enc x, z, clock⟩ (setBlock w b (.map (es.push ⟨enc x, z, clock⟩) (clock + 1))) (put f x z) (heap_set hb).1 (by simp; omega) (stamped_push hs r3) h1' h2' (by simp) rfl u
      rw [put_put] at this
      exact this
  · have hj : es[j]? = some e0 := by simpa using r3
    have hlist : (es.modify j (fun e' => { e' with key := enc x })).toList = es.toList.set j { e0 with key := enc x } := by rw [Array.toList_modify, Go.ChangeMaps.modify_eq_set _ _ _ _ r3]
    have hsame : ({ e0 with key := enc x } : MapEntry) = e0 := by cases e0; simp only at r4; subst r4; rfl
    have hset : es.toList.set j e0 = es.toList := by
      obtain ⟨hl, he⟩ := List.getElem?_eq_some_iff.1 r3
      rw [← he]; exact List.set_getElem_self hl
    have hes : (es.modify j (fun e' => { e' with key := enc x })) = es := by
      apply Array.toList_inj.1
      rw [hlist, hsame, hset]
    have hput : put f x e0.val = f := by
      funext y
      by_cases e : y = x
      · subst e; rw [put_same, r2]
      · rw [put_other _ _ e]
    refine ⟨setBlock w b (.map es clock), e0.born, ?_, ?_, grownBy_setBlock hb _, ?_⟩
    · rw [← hes]
      simp [Instr.mapEntry, run_underlying ht, MapKept.run_getObj_map hb, K.law.check w false hl, r1, hj, r4, K.law.stays w hl, MapKept.run_setObj_map _ hb, Result.andThen, setBlock, r2, goInt, hes]
    · rw [r2, Option.getD_some, hput]
      exact ⟨es, clock, (heap_set hb).1, by omega, hs, h1, h2⟩
    · intro u
      exact store es clock j e0 (setBlock w b (.map es clock)) f (heap_set hb).1 (by omega) hs h1 h2 r3 r4 u
theorem wpList_storeF {κ : Type} {P : Program} (w : World) {ops : Array Oper} {rest : List Oper} {o : Oper} {a : Act} {Q : Exit → Act → World → Prop}
    (hg : o.guard = none) (m x v : Operand) (t : TypeId) (hop : o.op = Op.mapUpdate t m x v)
    {k e : TypeId} {enc : κ → Value} {ok : κ → Prop} (K : KeyOk P k enc ok) (ht : P.underlying t = some (.map k e)) (b n : Nat) (f : κ → Option Value)
    (hm : a.eval m = .map (some b)) (h : MapF enc w b n f) (hall : ∀ x v, f x = some v → ok x) (y : κ) (hx : a.eval x = enc y) (hy : ok y) (u : Value) (hv : a.eval v = u)
    (hK : ∀ w', MapF enc w' b (n + 1) (put f y u) → w.grownBy w' (some b) → wpList P ops Q rest (a.put o.dst undef) w') :
    wpList P ops Q (o :: rest) a w := by
  refine wpList_plain hg fun K' hK' => ?_
  obtain ⟨w', hrun, r1, r2⟩ := h.store K hall ht y hy u
  unfold Oper.wp
  simp [execOp, hop, hm, hx, hv, hrun, Result.andThen]
  exact hK' _ _ (hK w' r1 r2)
theorem MapF.grown {κ : Type} {enc : κ → Value} {w w1 : World} {b n : Nat} {f : κ → Option Value} {row : Option Nat} (h : MapF enc w b n f) (hg : w.grownBy w1 row) (hne : some b ≠ row) : MapF enc w1 b n f := h.kept (hg.block b h.lt hne)
theorem MapF.ne_own {κ α : Type} {enc : κ → Value} {w w0 : World} {b n : Nat} {f : κ → Option Value} {d : Rp α} {e : TypeId} {base : Nat} {v : Value} {xs : List α} (h : MapF enc w b n f) (ho : Own d e w0 w base v xs) : some b ≠ v.ownBlock := by
  obtain ⟨es, clock, hb, _⟩ := h
  obtain ⟨cs, ⟨_, h2⟩, _⟩ := ho
  rcases h2 with ⟨rfl, _⟩ | ⟨g, cap, cur, rfl, hg, hh, _⟩
  · simp [Value.ownBlock]
  · intro q
    have q' : b = g := by simpa [Value.ownBlock] using q
    subst q'
    rw [hb] at hh
    cases hh
def MetF {κ : Type} (f : κ → Option Value) (met : List κ) : Prop := ∀ x, (x ∈ met → f x = some (.int .i64 1)) ∧ (x ∉ met → f x = none)
theorem MetF.nil {κ : Type} : MetF (fun _ : κ => none) [] := fun x => ⟨fun h => by simp at h, fun _ => rfl⟩
theorem MetF.cons {κ : Type} {f : κ → Option Value} {met : List κ} (h : MetF f met) (x : κ) : MetF (put f x (.int .i64 1)) (x :: met) := fun y => by
  by_cases e : y = x
  · subst e; exact ⟨fun _ => put_same _ _ _, fun h => absurd List.mem_cons_self h⟩
  · rw [put_other f _ e]
    exact ⟨fun hm => (h y).1 (by simpa [e] using hm), fun hm => (h y).2 (fun q => hm (List.mem_cons_of_mem _ q))⟩
theorem all_cons {κ : Type} {ok : κ → Prop} {x : κ} {met : List κ} (h : ok x) (hm : ∀ y ∈ met, ok y) : ∀ y ∈ x :: met, ok y := fun y hy => by
  rcases List.mem_cons.1 hy with rfl | hy
  · exact h
  · exact hm y hy
theorem MetF.ok {κ : Type} {f : κ → Option Value} {met : List κ} (h : MetF f met) {ok : κ → Prop} (hm : ∀ x ∈ met, ok x) : ∀ y v, f y = some v → ok y := fun y v hf => by
  by_cases e : y ∈ met
  · exact hm y e
  · rw [(h y).2 e] at hf; cases hf
theorem MetF.ok_put {κ : Type} {f : κ → Option Value} {met : List κ} (h : MetF f met) {ok : κ → Prop} (hm : ∀ x ∈ met, ok x) {x : κ} (hx : ok x) (u : Value) : ∀ y v, put f x u y = some v → ok y := fun y v hf => by
  by_cases e : y = x
  · subst e; exact hx
  · rw [put_other f u e] at hf; exact h.ok hm y v hf
def encI (x : Int) : Value := .int .i64 x
theorem keyI {P : Program} {k : TypeId} (hk : P.underlying k = some (.int .i64)) : KeyOk P k encI int64 where
  law := Go.Maps.int_keyed hk
  of x hx := ⟨_, Go.Maps.keyOf_int_mk hk (WalkArith.wf_i64 hx)⟩
  inj x y h := by simpa [encI] using h
end Go.Proofs.Ytjblfgagafmhcaa.Fw
