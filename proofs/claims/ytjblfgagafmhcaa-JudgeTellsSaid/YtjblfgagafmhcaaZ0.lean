/- Part 0 of the proof of one statement: what is written for it by hand and by a program of this seat's, over the given program's form. Conditions: none. -/
import Derived.WalkKit
import Derived.Below
import Derived.OwnWalk
import Derived.Lib.Hide
import Derived.Outline
import Derived.KernelRfl
import Derived.Deep.LoopGhost
import Derived.Deep.QuietTactic
import Derived.BigQuiet
import Derived.Deep.DeepCutAuto
import Derived.Shelf.Abstract
import Derived.Maps.OwnSet
import Derived.Maps.OwnOps
import Derived.RegionTactic
import Derived.Laws.Rows
import Derived.Laws.Cells
import Derived.Deep.RegionWith
set_option linter.unusedVariables false
set_option linter.unusedSimpArgs false
namespace Go.Proofs.Ytjblfgagafmhcaa.Fw
open Go.RowKit
structure Rp (α : Type) where
  sz : Nat
  vl : List Value → Value
  K : World → α → List Value → Prop
  len : ∀ {w x cs}, K w x cs → cs.length = sz
  one : ∀ {w x cs}, K w x cs → ∀ u ∈ cs, u.oneCell' = true
  below : ∀ {w w1 : World} {x cs}, Below w.heap.size w w1 → K w x cs → K w1 x cs
def int64 (x : Int) : Prop := -9223372036854775808 ≤ x ∧ x ≤ 9223372036854775807
def rInt : Rp Int where
  sz := 1
  vl := fun cs => cs.headD undef
  K := fun _ x cs => cs = [.int .i64 x] ∧ int64 x
  len := by rintro w x cs ⟨rfl, _⟩; rfl
  one := by rintro w x cs ⟨rfl, _⟩ u hu; simp at hu; subst hu; rfl
  below := fun _ h => h
def rBool : Rp Bool where
  sz := 1
  vl := fun cs => cs.headD undef
  K := fun _ x cs => cs = [.bool x]
  len := by rintro w x cs rfl; rfl
  one := by rintro w x cs rfl u hu; simp at hu; subst hu; rfl
  below := fun _ h => h
def rStr : Rp ByteArray where
  sz := 1
  vl := fun cs => cs.headD undef
  K := fun _ x cs => cs = [.string x] ∧ x.size ≤ 9223372036854775807
  len := by rintro w x cs ⟨rfl, _⟩; rfl
  one := by rintro w x cs ⟨rfl, _⟩ u hu; simp at hu; subst hu; rfl
  below := fun _ h => h
def Sl {α : Type} (d : Rp α) (w : World) (A : Option Addr) (c : Nat) (xs : List α) : Prop :=
  xs.length ≤ c ∧ xs.length ≤ 9223372036854775807 ∧
  (0 < xs.length → ∃ b off, A = some ⟨b, off, none⟩ ∧ b < w.heap.size ∧
    ∀ j x, xs[j]? = some x → ∃ cs, d.K w x cs ∧ ∀ i v, cs[i]? = some v → w.cell? ⟨b, off + (j * d.sz + i), none⟩ = some v)
theorem Sl.below {α : Type} {d : Rp α} {w w1 : World} {A : Option Addr} {c : Nat} {xs : List α} (h : Sl d w A c xs) (hb : Below w.heap.size w w1) : Sl d w1 A c xs := by
  obtain ⟨h2, h3, h4⟩ := h
  refine ⟨h2, h3, fun hn => ?_⟩
  obtain ⟨b, off, e, hlt, hx⟩ := h4 hn
  refine ⟨b, off, e, Nat.lt_of_lt_of_le hlt hb.size, fun j x hj => ?_⟩
  obtain ⟨cs, hk, hc⟩ := hx j x hj
  exact ⟨cs, d.below hb hk, fun i v hi => (hb.cell (p := ⟨b, _, none⟩) hlt).trans (hc i v hi)⟩
theorem Sl.nil {α : Type} (d : Rp α) (w : World) (A : Option Addr) (c : Nat) : Sl d w A c [] := ⟨Nat.zero_le _, Nat.zero_le _, fun h => absurd h (Nat.lt_irrefl _)⟩
theorem Sl.bound {α : Type} {d : Rp α} {w : World} {A : Option Addr} {c : Nat} {xs : List α} (h : Sl d w A c xs) : xs.length ≤ 9223372036854775807 := h.2.1
def rSl {α : Type} (d : Rp α) : Rp (List α) where
  sz := 1
  vl := fun cs => cs.headD undef
  K := fun w xs cs => ∃ A c, cs = [.slice A xs.length c] ∧ Sl d w A c xs
  len := by rintro w x cs ⟨A, c, rfl, _⟩; rfl
  one := by rintro w x cs ⟨A, c, rfl, _⟩ u hu; simp at hu; subst hu; rfl
  below := fun hb ⟨A, c, e, h⟩ => ⟨A, c, e, h.below hb⟩
theorem add_none (b o j : Nat) : (⟨b, o, none⟩ : Addr).add j = ⟨b, o + j, none⟩ := by unfold Addr.add; split <;> simp_all
theorem drop_of_get {α : Type} {xs : List α} {j : Nat} {x : α} (h : xs[j]? = some x) : xs.drop j = x :: xs.drop (j + 1) := by
  obtain ⟨hl, rfl⟩ := List.getElem?_eq_some_iff.1 h
  exact List.drop_eq_getElem_cons hl
theorem Sl.at_ {α : Type} {d : Rp α} {w : World} {A : Option Addr} {c : Nat} {xs : List α} (h : Sl d w A c xs) (j : Nat) (hj : j < xs.length) :
    ∃ b off x cs, A = some ⟨b, off, none⟩ ∧ b < w.heap.size ∧ xs[j]? = some x ∧ d.K w x cs ∧ ∀ i v, cs[i]? = some v → w.cell? ⟨b, off + (j * d.sz + i), none⟩ = some v := by
  obtain ⟨b, off, e, hlt, hx⟩ := h.2.2 (by omega)
  obtain ⟨cs, hk, hc⟩ := hx j xs[j] (List.getElem?_eq_getElem hj)
  exact ⟨b, off, _, cs, e, hlt, List.getElem?_eq_getElem hj, hk, hc⟩
theorem Sl.all {α : Type} {d : Rp α} {w : World} {A : Option Addr} {c : Nat} {xs : List α} (h : Sl d w A c xs) : ∀ x ∈ xs, ∃ cs, d.K w x cs := fun x hx => by
  obtain ⟨j, hj, e⟩ := List.getElem_of_mem hx
  obtain ⟨_, _, y, cs, _, _, hy, hk, _⟩ := h.at_ j hj
  rw [List.getElem?_eq_getElem hj, e] at hy
  cases hy
  exact ⟨cs, hk⟩
theorem blk_below {w w1 : World} {b : Nat} {o : Obj} (h : w.heap[b]? = some o) (hb : Below w.heap.size w w1) : w1.heap[b]? = some o := (hb.block b (Array.getElem?_eq_some_iff.1 h).1).trans h
theorem blk_alloc {w : World} {b : Nat} {o : Obj} (h : w.heap[b]? = some o) (o' : Obj) : (w.alloc o').heap[b]? = some o := blk_below h ((Below.refl _ _).alloc (Nat.le_refl _) o')
theorem blk_new (w : World) (o : Obj) : (w.alloc o).heap[w.heap.size]? = some o := by show (w.heap.push o)[w.heap.size]? = _; simp
theorem blk_grown {w w1 : World} {b : Nat} {o : Obj} {row : Option Nat} (h : w.heap[b]? = some o) (hg : w.grownBy w1 row) (hne : some b ≠ row) : w1.heap[b]? = some o := (hg.block b (Array.getElem?_eq_some_iff.1 h).1 hne).trans h
theorem blk_cell {w : World} {b i : Nat} {cs : Array Value} {t : TypeId} {fr : Nat × Nat} {v : Value} (h : w.heap[b]? = some (.cells cs t fr)) (hi : cs[i]? = some v) : w.cell? ⟨b, i, none⟩ = some v := by simp [World.cell?, h, hi]
theorem blk4 {w : World} {b : Nat} {a0 a1 a2 a3 : Value} {t : TypeId} {fr : Nat × Nat} (h : w.heap[b]? = some (.cells #[a0, a1, a2, a3] t fr)) : w.cell? ⟨b, 0, none⟩ = some a0 ∧ w.cell? ⟨b, 1, none⟩ = some a1 ∧ w.cell? ⟨b, 2, none⟩ = some a2 ∧ w.cell? ⟨b, 3, none⟩ = some a3 :=
  ⟨blk_cell h rfl, blk_cell h rfl, blk_cell h rfl, blk_cell h rfl⟩
theorem blk_free {w : World} {b i : Nat} {cs : Array Value} {t : TypeId} (h : w.heap[b]? = some (.cells cs t (0, 0))) : w.frozen? ⟨b, i, none⟩ = false := by simp [World.frozen?, h]
theorem blk_lt {w : World} {b : Nat} {o : Obj} (h : w.heap[b]? = some o) : b < w.heap.size := (Array.getElem?_eq_some_iff.1 h).1
theorem below_grown {B : Nat} {w w1 w2 : World} {row : Option Nat} (h : Below B w w1) (hg : w1.grownBy w2 row) (hB : B ≤ w1.heap.size) (hr : ∀ k, row = some k → B ≤ k) : Below B w w2 := h.grown hg hB hr
theorem aside {p : Prop} (h : p) : Aside p := h
theorem ret_int {k : IntKind} {a b : Int} (h : a = b) : Ending.returned (.int k a) = .returned (.int k b) := by rw [h]
theorem ret_bool {a b : Bool} (h : a = b) : Ending.returned (.bool a) = .returned (.bool b) := by rw [h]
theorem drop_end {α : Type} (xs : List α) : xs.drop xs.length = [] := List.drop_eq_nil_of_le (Nat.le_refl _)
theorem Sl.atInt {w W : World} {A : Option Addr} {c : Nat} {xs : List Int} (h : Sl rInt w A c xs) (hB : Below w.heap.size w W) (j : Nat) (hj : j < xs.length) :
    ∃ b off x, A = some ⟨b, off, none⟩ ∧ b < W.heap.size ∧ xs[j]? = some x ∧ rInt.K w x [.int .i64 x] ∧ int64 x ∧ W.cell? ⟨b, off + j, none⟩ = some (.int .i64 x) := by
  obtain ⟨b, off, x, cs, e, hlt, hd, hk, hc0⟩ := h.at_ j hj
  have hc : ∀ i v, cs[i]? = some v → W.cell? ⟨b, off + (j * rInt.sz + i), none⟩ = some v := fun i v hi => (hB.cell (p := ⟨b, _, none⟩) hlt).trans (hc0 i v hi)
  have hk' := hk
  obtain ⟨rfl, f⟩ := hk'
  have := hc 0 _ rfl
  simp only [rInt, Nat.mul_one, Nat.add_zero] at this
  exact ⟨b, off, x, e, Nat.lt_of_lt_of_le hlt hB.size, hd, hk, f, this⟩
theorem Sl.atBool {w W : World} {A : Option Addr} {c : Nat} {xs : List Bool} (h : Sl rBool w A c xs) (hB : Below w.heap.size w W) (j : Nat) (hj : j < xs.length) :
    ∃ b off x, A = some ⟨b, off, none⟩ ∧ b < W.heap.size ∧ xs[j]? = some x ∧ rBool.K w x [.bool x] ∧ W.cell? ⟨b, off + j, none⟩ = some (.bool x) := by
  obtain ⟨b, off, x, cs, e, hlt, hd, hk, hc0⟩ := h.at_ j hj
  have hc : ∀ i v, cs[i]? = some v → W.cell? ⟨b, off + (j * rBool.sz + i), none⟩ = some v := fun i v hi => (hB.cell (p := ⟨b, _, none⟩) hlt).trans (hc0 i v hi)
  have hk' := hk
  obtain rfl := hk'
  have := hc 0 _ rfl
  simp only [rBool, Nat.mul_one, Nat.add_zero] at this
  exact ⟨b, off, x, e, Nat.lt_of_lt_of_le hlt hB.size, hd, hk, this⟩
theorem Sl.atSl {α : Type} {d : Rp α} {w W : World} {A : Option Addr} {c : Nat} {xs : List (List α)} (h : Sl (rSl d) w A c xs) (hB : Below w.heap.size w W) (j : Nat) (hj : j < xs.length) :
    ∃ b off x A1 c1, A = some ⟨b, off, none⟩ ∧ b < W.heap.size ∧ xs[j]? = some x ∧ (rSl d).K w x [.slice A1 x.length c1] ∧ Sl d w A1 c1 x ∧ W.cell? ⟨b, off + j, none⟩ = some (.slice A1 x.length c1) := by
  obtain ⟨b, off, x, cs, e, hlt, hd, hk, hc0⟩ := h.at_ j hj
  have hc : ∀ i v, cs[i]? = some v → W.cell? ⟨b, off + (j * (rSl d).sz + i), none⟩ = some v := fun i v hi => (hB.cell (p := ⟨b, _, none⟩) hlt).trans (hc0 i v hi)
  have hk' := hk
  obtain ⟨A1, c1, rfl, f⟩ := hk'
  have := hc 0 _ rfl
  simp only [rSl, Nat.mul_one, Nat.add_zero] at this
  exact ⟨b, off, x, A1, c1, e, Nat.lt_of_lt_of_le hlt hB.size, hd, hk, f, this⟩
def PredOn {α : Type} (P : Program) (g : Nat) (lb : Array Value) (d : Rp α) (p : α → Bool) (w : World) : Prop :=
  ∀ (W : World) (x : α) (cs : List Value), Below w.heap.size w W → d.K W x cs → Calls P g (#[d.vl cs] ++ lb) W fun e w' => e = .returned (.bool (p x)) ∧ Below w.heap.size w w'
def idxP {α : Type} (p : α → Bool) : List α → Nat → Int
  | [], _ => -1
  | x :: xs, k => if p x then (k : Int) else idxP p xs (k + 1)
theorem idxP_any {α : Type} (p : α → Bool) (xs : List α) (k : Nat) : decide (0 ≤ idxP p xs k) = xs.any p := by
  induction xs generalizing k with
  | nil => rfl
  | cons x xs ih =>
    rw [idxP, List.any_cons]
    cases p x
    · simpa using ih (k + 1)
    · simp
end Go.Proofs.Ytjblfgagafmhcaa.Fw
