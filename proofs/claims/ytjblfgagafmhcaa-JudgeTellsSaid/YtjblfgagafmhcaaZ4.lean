/- Part 4 of the proof of one statement: what is written for it by hand and by a program of this seat's, over the given program's form. Conditions: none. -/
import Derived.Test.YtjblfgagafmhcaaProg
import Derived.Below
import Derived.Deep.Draws
import Derived.Deep.AppendLies
import Derived.Maps.AppendAt
import Derived.OwnWalk
import Derived.Laws.BytesArg
import Derived.Laws.MakeOwn
import Derived.Laws.OwnMore
import Derived.Deep.OwnRows
import Derived.Tactics
import Derived.Lib.ConvBytes
import Derived.Laws.Slices
import Derived.WalkKit
import Derived.KernelRfl
import Derived.RowKit3
import Derived.Deep.LoopGhost
import Derived.Deep.QuietTactic
import Derived.BigQuiet
import Derived.WideLaws
import Derived.Deep.DeepCutAuto
import Derived.Deep.CutBlock
import Derived.Deep.RegionHeld3
import Derived.Laws.Rows
import Derived.Lib.AppendStr
import Derived.ArgAppend
import Derived.Laws.IdiomCopy
import Derived.OrdersHeld
import Derived.Laws.BitsLemmas
import Derived.RowKit
import Derived.Test.YtjblfgagafmhcaaZ1
import Derived.Test.YtjblfgagafmhcaaZ2
import Derived.Test.YtjblfgagafmhcaaZ3
import Derived.Test.YtjblfgagafmhcaaZ0
import Derived.ProofKit
import Derived.Deep.Slices
set_option linter.unusedVariables false
set_option linter.unusedSimpArgs false
namespace Go.Proofs.Ytjblfgagafmhcaa.K
open Go.RowKit Go.Proofs.YtjblfgagafmhcaaW.PrintWords Go.Proofs.YtjblfgagafmhcaaW.PrintLast Go.Proofs.YtjblfgagafmhcaaW.PrintMore
attribute [local go_sem] max2_int min2_int max_two min_two max_three min_three max_four min_four   -- for this text's walks alone
set_option linter.unusedVariables false
set_option linter.unusedSimpArgs false
noncomputable section
structure S80 where
 f0 : Int
 f1 : Int
 f2 : Int
 f3 : Int
 f4 : ByteArray
def z80 : S80 := ⟨(0 : Int), (0 : Int), (0 : Int), (0 : Int), (⟨#[]⟩ : ByteArray)⟩
def k80 : Kd S80 := Kd.iso (Kd.pair (Kd.int .i64) (Kd.pair (Kd.int .i64) (Kd.pair (Kd.int .i64) (Kd.pair (Kd.int .i64) Kd.string)))) (fun x : S80 => (x.f0, x.f1, x.f2, x.f3, x.f4))
theorem k80_open {w : World} {x : S80} {cs : List Value} (h : k80.K w x cs) : cs = [.int .i64 x.f0, .int .i64 x.f1, .int .i64 x.f2, .int .i64 x.f3, .string x.f4] := by
 obtain ⟨_, _, rfl, rfl, ⟨_, _, rfl, rfl, ⟨_, _, rfl, rfl, ⟨_, _, rfl, rfl, rfl⟩⟩⟩⟩ := h
 exact rfl
theorem k80_mk (w : World) (x : S80)  : k80.K w x [.int .i64 x.f0, .int .i64 x.f1, .int .i64 x.f2, .int .i64 x.f3, .string x.f4] := ⟨[.int .i64 x.f0], [.int .i64 x.f1, .int .i64 x.f2, .int .i64 x.f3, .string x.f4], rfl, rfl, ⟨[.int .i64 x.f1], [.int .i64 x.f2, .int .i64 x.f3, .string x.f4], rfl, rfl, ⟨[.int .i64 x.f2], [.int .i64 x.f3, .string x.f4], rfl, rfl, ⟨[.int .i64 x.f3], [.string x.f4], rfl, rfl, rfl⟩⟩⟩⟩
theorem k80_mkM (w : World) (base : Nat) (ok : Nat → Prop) (x : S80)  : k80.M w base ok x [.int .i64 x.f0, .int .i64 x.f1, .int .i64 x.f2, .int .i64 x.f3, .string x.f4] := ⟨[.int .i64 x.f0], [.int .i64 x.f1, .int .i64 x.f2, .int .i64 x.f3, .string x.f4], rfl, rfl, ⟨[.int .i64 x.f1], [.int .i64 x.f2, .int .i64 x.f3, .string x.f4], rfl, rfl, ⟨[.int .i64 x.f2], [.int .i64 x.f3, .string x.f4], rfl, rfl, ⟨[.int .i64 x.f3], [.string x.f4], rfl, rfl, rfl⟩⟩⟩⟩
def rd_T80 (xs : List S80) (i : Int) : S80 := xs.getD i.toNat z80
theorem at_T80 {w : World} {A : Option Addr} {n : Nat} {xs : List S80} (h : Kd.C k80 w A n xs) (i : Int) (h0 : 0 ≤ i) (h1 : i < n) : ∃ ad , A = some ad ∧ w.cell? (ad.add (i.toNat * 5)) = some (.int .i64 (rd_T80 xs i).f0) ∧ w.cell? ⟨(ad.add (i.toNat * 5)).block, (ad.add (i.toNat * 5)).off + 1, none⟩ = some (.int .i64 (rd_T80 xs i).f1) ∧ w.cell? ⟨(ad.add (i.toNat * 5)).block, (ad.add (i.toNat * 5)).off + 2, none⟩ = some (.int .i64 (rd_T80 xs i).f2) ∧ w.cell? ⟨(ad.add (i.toNat * 5)).block, (ad.add (i.toNat * 5)).off + 3, none⟩ = some (.int .i64 (rd_T80 xs i).f3) ∧ w.cell? ⟨(ad.add (i.toNat * 5)).block, (ad.add (i.toNat * 5)).off + 4, none⟩ = some (.string (rd_T80 xs i).f4) := by
 obtain ⟨ad, c, e, _, hK, hc0⟩ := Kd.C_get h z80 i h0 h1
 have hc : ∀ j u, c[j]? = some u → w.cell? (ad.add (i.toNat * 5 + j)) = some u := hc0
 obtain rfl := k80_open hK
 exact ⟨ad, e, hc 0 _ rfl, by rw [← add_field _ _ 1 (by omega)]; exact hc 1 _ rfl, by rw [← add_field _ _ 2 (by omega)]; exact hc 2 _ rfl, by rw [← add_field _ _ 3 (by omega)]; exact hc 3 _ rfl, by rw [← add_field _ _ 4 (by omega)]; exact hc 4 _ rfl⟩
structure S66 where
 f0 : Int
 f1 : Int
 f2 : Bool
def z66 : S66 := ⟨(0 : Int), (0 : Int), false⟩
def k66 : Kd S66 := Kd.iso (Kd.pair (Kd.int .i64) (Kd.pair (Kd.int .i64) Kd.bool)) (fun x : S66 => (x.f0, x.f1, x.f2))
theorem k66_heap : Kd.Heap k66 := Kd.heap_iso _ (Kd.heap_pair (Kd.heap_int .i64) (Kd.heap_pair (Kd.heap_int .i64) Kd.heap_bool))
theorem k66_open {w : World} {x : S66} {cs : List Value} (h : k66.K w x cs) : cs = [.int .i64 x.f0, .int .i64 x.f1, .bool x.f2] := by
 obtain ⟨_, _, rfl, rfl, ⟨_, _, rfl, rfl, rfl⟩⟩ := h
 exact rfl
theorem k66_mk (w : World) (x : S66)  : k66.K w x [.int .i64 x.f0, .int .i64 x.f1, .bool x.f2] := ⟨[.int .i64 x.f0], [.int .i64 x.f1, .bool x.f2], rfl, rfl, ⟨[.int .i64 x.f1], [.bool x.f2], rfl, rfl, rfl⟩⟩
def rd_T66 (xs : List S66) (i : Int) : S66 := xs.getD i.toNat z66
theorem at_T66 {w : World} {A : Option Addr} {n : Nat} {xs : List S66} (h : Kd.C k66 w A n xs) (i : Int) (h0 : 0 ≤ i) (h1 : i < n) : ∃ ad , A = some ad ∧ w.cell? (ad.add (i.toNat * 3)) = some (.int .i64 (rd_T66 xs i).f0) ∧ w.cell? ⟨(ad.add (i.toNat * 3)).block, (ad.add (i.toNat * 3)).off + 1, none⟩ = some (.int .i64 (rd_T66 xs i).f1) ∧ w.cell? ⟨(ad.add (i.toNat * 3)).block, (ad.add (i.toNat * 3)).off + 2, none⟩ = some (.bool (rd_T66 xs i).f2) := by
 obtain ⟨ad, c, e, _, hK, hc0⟩ := Kd.C_get h z66 i h0 h1
 have hc : ∀ j u, c[j]? = some u → w.cell? (ad.add (i.toNat * 3 + j)) = some u := hc0
 obtain rfl := k66_open hK
 exact ⟨ad, e, hc 0 _ rfl, by rw [← add_field _ _ 1 (by omega)]; exact hc 1 _ rfl, by rw [← add_field _ _ 2 (by omega)]; exact hc 2 _ rfl⟩
structure S64 where
 f0 : Int
 f1 : (List S66)
def z64 : S64 := ⟨(0 : Int), ([] : List S66)⟩
def k64 : Kd S64 := Kd.iso (Kd.pair (Kd.int .i64) (Kd.slice 66 k66)) (fun x : S64 => (x.f0, x.f1))
theorem k64_heap : Kd.Heap k64 := Kd.heap_iso _ (Kd.heap_pair (Kd.heap_int .i64) (Kd.heap_slice 66 k66_heap))
theorem k64_open {w : World} {x : S64} {cs : List Value} (h : k64.K w x cs) : ∃ A1 c1, cs = [.int .i64 x.f0, .slice A1 x.f1.length c1] ∧ x.f1.length ≤ c1 ∧ k66.C w A1 x.f1.length x.f1 := by
 obtain ⟨_, _, rfl, rfl, ⟨A1, c1, rfl, l1, g1⟩⟩ := h
 exact ⟨A1, c1, rfl, l1, g1⟩
theorem k64_mk (w : World) (x : S64) {A1 : Option Addr} {c1 : Nat} (l1 : x.f1.length ≤ c1) (g1 : k66.C w A1 x.f1.length x.f1) : k64.K w x [.int .i64 x.f0, .slice A1 x.f1.length c1] := ⟨[.int .i64 x.f0], [.slice A1 x.f1.length c1], rfl, rfl, ⟨A1, c1, rfl, l1, g1⟩⟩
theorem k64_openF {W : World} {ok : Nat → Prop} {x : S64} {cs : List Value} (h : Kd.FK k64 W ok x cs) : ∃ A1 c1, cs = [.int .i64 x.f0, .slice A1 x.f1.length c1] ∧ x.f1.length ≤ c1 ∧ Kd.F k66 W ok A1 x.f1.length x.f1 := by
 obtain ⟨A1, c1, rfl, l1, _⟩ := k64_open (Kd.FK_now h)
 exact ⟨A1, c1, rfl, l1, (fun W' hW => by obtain ⟨A1_, c1_, he, l1_, g1_⟩ := k64_open (h W' hW); injection (Option.some.inj (show some (Value.slice A1 x.f1.length c1) = some (Value.slice A1_ x.f1.length c1_) from congrArg (fun l => l[1]?) he)) with ha_ _ _; rw [ha_]; exact g1_)⟩
theorem k64_mkF (W : World) (ok : Nat → Prop) (x : S64) {A1 : Option Addr} {c1 : Nat} (l1 : x.f1.length ≤ c1) (g1 : Kd.F k66 W ok A1 x.f1.length x.f1) : Kd.FK k64 W ok x [.int .i64 x.f0, .slice A1 x.f1.length c1] := fun W2 hW => k64_mk W2 x l1 (g1 W2 hW)
def rd_T64 (xs : List S64) (i : Int) : S64 := xs.getD i.toNat z64
theorem at_T64 {w : World} {A : Option Addr} {n : Nat} {xs : List S64} (h : Kd.C k64 w A n xs) (i : Int) (h0 : 0 ≤ i) (h1 : i < n) : ∃ ad A1 c1, A = some ad ∧ w.cell? (ad.add (i.toNat * 2)) = some (.int .i64 (rd_T64 xs i).f0) ∧ w.cell? ⟨(ad.add (i.toNat * 2)).block, (ad.add (i.toNat * 2)).off + 1, none⟩ = some (.slice A1 (rd_T64 xs i).f1.length c1) ∧ (rd_T64 xs i).f1.length ≤ c1 ∧ k66.C w A1 (rd_T64 xs i).f1.length (rd_T64 xs i).f1 := by
 obtain ⟨ad, c, e, _, hK, hc0⟩ := Kd.C_get h z64 i h0 h1
 have hc : ∀ j u, c[j]? = some u → w.cell? (ad.add (i.toNat * 2 + j)) = some u := hc0
 obtain ⟨A1, c1, rfl, l1, g1⟩ := k64_open hK
 exact ⟨ad, A1, c1, e, hc 0 _ rfl, by rw [← add_field _ _ 1 (by omega)]; exact hc 1 _ rfl, l1, g1⟩
structure S91 where
 f0 : Int
 f1 : Int
def z91 : S91 := ⟨(0 : Int), (0 : Int)⟩
def k91 : Kd S91 := Kd.iso (Kd.pair (Kd.int .i64) (Kd.int .i64)) (fun x : S91 => (x.f0, x.f1))
theorem k91_heap : Kd.Heap k91 := Kd.heap_iso _ (Kd.heap_pair (Kd.heap_int .i64) (Kd.heap_int .i64))
theorem k91_open {w : World} {x : S91} {cs : List Value} (h : k91.K w x cs) : cs = [.int .i64 x.f0, .int .i64 x.f1] := by
 obtain ⟨_, _, rfl, rfl, rfl⟩ := h
 exact rfl
theorem k91_mk (w : World) (x : S91)  : k91.K w x [.int .i64 x.f0, .int .i64 x.f1] := ⟨[.int .i64 x.f0], [.int .i64 x.f1], rfl, rfl, rfl⟩
def rd_T91 (xs : List S91) (i : Int) : S91 := xs.getD i.toNat z91
theorem at_T91 {w : World} {A : Option Addr} {n : Nat} {xs : List S91} (h : Kd.C k91 w A n xs) (i : Int) (h0 : 0 ≤ i) (h1 : i < n) : ∃ ad , A = some ad ∧ w.cell? (ad.add (i.toNat * 2)) = some (.int .i64 (rd_T91 xs i).f0) ∧ w.cell? ⟨(ad.add (i.toNat * 2)).block, (ad.add (i.toNat * 2)).off + 1, none⟩ = some (.int .i64 (rd_T91 xs i).f1) := by
 obtain ⟨ad, c, e, _, hK, hc0⟩ := Kd.C_get h z91 i h0 h1
 have hc : ∀ j u, c[j]? = some u → w.cell? (ad.add (i.toNat * 2 + j)) = some u := hc0
 obtain rfl := k91_open hK
 exact ⟨ad, e, hc 0 _ rfl, by rw [← add_field _ _ 1 (by omega)]; exact hc 1 _ rfl⟩
structure S25 where
 f0 : Int
 f1 : (List S64)
 f2 : (List S91)
structure S131 where
 f0 : Int
 f1 : Int
 f2 : Int
 f3 : ByteArray
def z131 : S131 := ⟨(0 : Int), (0 : Int), (0 : Int), (⟨#[]⟩ : ByteArray)⟩
structure S104 where
 f0 : Int
 f1 : Int
 f2 : Int
 f3 : Bool
structure S50 where
 f0 : (List (List S104))
 f1 : Int
 f2 : Int
structure S111 where
 f0 : Int
 f1 : Int
structure S189 where
 f0 : Int
 f1 : Int
 f2 : Int
 f3 : Int
def rd_L18 (xs : List (List Bool)) (i : Int) : (List Bool) := xs.getD i.toNat ([] : List Bool)
theorem at_L18 {w : World} {A : Option Addr} {n : Nat} {xs : List (List Bool)} (h : Kd.C (Kd.slice 4 Kd.bool) w A n xs) (i : Int) (h0 : 0 ≤ i) (h1 : i < n) : ∃ ad A0 c0, A = some ad ∧ w.cell? (ad.add i.toNat) = some (.slice A0 (rd_L18 xs i).length c0) ∧ (rd_L18 xs i).length ≤ c0 ∧ Kd.bool.C w A0 (rd_L18 xs i).length (rd_L18 xs i) := by
 obtain ⟨ad, c, e, _, hK, hc0⟩ := Kd.C_get h ([] : List Bool) i h0 h1
 have hc : ∀ j u, c[j]? = some u → w.cell? (ad.add (i.toNat * 1 + j)) = some u := hc0
 obtain ⟨A0, c0, rfl, l0, g0⟩ := hK
 exact ⟨ad, A0, c0, e, by have hq := hc 0 _ rfl; rwa [Nat.mul_one, Nat.add_zero] at hq, l0, g0⟩
end
end Go.Proofs.Ytjblfgagafmhcaa.K
namespace Go.Proofs.Ytjblfgagafmhcaa.Fw
open Go.RowKit
abbrev Copy := K.S80
@[reducible] def _root_.Go.Proofs.Ytjblfgagafmhcaa.K.S80.at_ (x : K.S80) : Int := x.f0
@[reducible] def _root_.Go.Proofs.Ytjblfgagafmhcaa.K.S80.seg (x : K.S80) : Int := x.f1
@[reducible] def _root_.Go.Proofs.Ytjblfgagafmhcaa.K.S80.bridge (x : K.S80) : Int := x.f2
@[reducible] def _root_.Go.Proofs.Ytjblfgagafmhcaa.K.S80.port (x : K.S80) : Int := x.f3
@[reducible] def _root_.Go.Proofs.Ytjblfgagafmhcaa.K.S80.raw (x : K.S80) : ByteArray := x.f4
def rCopy : Rp Copy where
  sz := 5
  vl := fun cs => .agg cs.toArray
  K := fun _ x cs => cs = [.int .i64 x.at_, .int .i64 x.seg, .int .i64 x.bridge, .int .i64 x.port, .string x.raw] ∧ int64 x.at_ ∧ int64 x.seg ∧ int64 x.bridge ∧ int64 x.port ∧ x.raw.size ≤ 9223372036854775807
  len := by rintro w x cs ⟨rfl, _⟩; rfl
  one := by rintro w x cs ⟨rfl, _⟩ u hu; simp at hu; rcases hu with rfl | rfl | rfl | rfl | rfl <;> rfl
  below := fun _ h => h
theorem Sl.atCopy {w W : World} {A : Option Addr} {c : Nat} {xs : List Copy} (h : Sl rCopy w A c xs) (hB : Below w.heap.size w W) (j : Nat) (hj : j < xs.length) :
    ∃ b off x , A = some ⟨b, off, none⟩ ∧ b < W.heap.size ∧ xs[j]? = some x ∧ rCopy.K w x [.int .i64 x.at_, .int .i64 x.seg, .int .i64 x.bridge, .int .i64 x.port, .string x.raw] ∧ int64 x.at_ ∧ int64 x.seg ∧ int64 x.bridge ∧ int64 x.port ∧ x.raw.size ≤ 9223372036854775807 ∧
      W.cell? ⟨b, off + j * 5, none⟩ = some (.int .i64 x.at_) ∧ W.cell? ⟨b, off + j * 5 + 1, none⟩ = some (.int .i64 x.seg) ∧ W.cell? ⟨b, off + j * 5 + 2, none⟩ = some (.int .i64 x.bridge) ∧ W.cell? ⟨b, off + j * 5 + 3, none⟩ = some (.int .i64 x.port) ∧ W.cell? ⟨b, off + j * 5 + 4, none⟩ = some (.string x.raw) := by
  obtain ⟨b, off, x, cs, e, hlt, hd, hk, hc0⟩ := h.at_ j hj
  have hc : ∀ i v, cs[i]? = some v → W.cell? ⟨b, off + (j * rCopy.sz + i), none⟩ = some v := fun i v hi => (hB.cell (p := ⟨b, _, none⟩) hlt).trans (hc0 i v hi)
  have hk' := hk
  obtain ⟨rfl, f0, f1, f2, f3, f4⟩ := hk'
  simp only [rCopy, ← Nat.add_assoc] at hc
  exact ⟨b, off, x, e, Nat.lt_of_lt_of_le hlt hB.size, hd, hk, f0, f1, f2, f3, f4, hc 0 _ rfl, hc 1 _ rfl, hc 2 _ rfl, hc 3 _ rfl, hc 4 _ rfl⟩
abbrev Link := K.S66
@[reducible] def _root_.Go.Proofs.Ytjblfgagafmhcaa.K.S66.seg (x : K.S66) : Int := x.f0
@[reducible] def _root_.Go.Proofs.Ytjblfgagafmhcaa.K.S66.cost (x : K.S66) : Int := x.f1
@[reducible] def _root_.Go.Proofs.Ytjblfgagafmhcaa.K.S66.up (x : K.S66) : Bool := x.f2
def rLink : Rp Link where
  sz := 3
  vl := fun cs => .agg cs.toArray
  K := fun _ x cs => cs = [.int .i64 x.seg, .int .i64 x.cost, .bool x.up] ∧ int64 x.seg ∧ int64 x.cost
  len := by rintro w x cs ⟨rfl, _⟩; rfl
  one := by rintro w x cs ⟨rfl, _⟩ u hu; simp at hu; rcases hu with rfl | rfl | rfl <;> rfl
  below := fun _ h => h
theorem Sl.atLink {w W : World} {A : Option Addr} {c : Nat} {xs : List Link} (h : Sl rLink w A c xs) (hB : Below w.heap.size w W) (j : Nat) (hj : j < xs.length) :
    ∃ b off x , A = some ⟨b, off, none⟩ ∧ b < W.heap.size ∧ xs[j]? = some x ∧ rLink.K w x [.int .i64 x.seg, .int .i64 x.cost, .bool x.up] ∧ int64 x.seg ∧ int64 x.cost ∧
      W.cell? ⟨b, off + j * 3, none⟩ = some (.int .i64 x.seg) ∧ W.cell? ⟨b, off + j * 3 + 1, none⟩ = some (.int .i64 x.cost) ∧ W.cell? ⟨b, off + j * 3 + 2, none⟩ = some (.bool x.up) := by
  obtain ⟨b, off, x, cs, e, hlt, hd, hk, hc0⟩ := h.at_ j hj
  have hc : ∀ i v, cs[i]? = some v → W.cell? ⟨b, off + (j * rLink.sz + i), none⟩ = some v := fun i v hi => (hB.cell (p := ⟨b, _, none⟩) hlt).trans (hc0 i v hi)
  have hk' := hk
  obtain ⟨rfl, f0, f1⟩ := hk'
  simp only [rLink, ← Nat.add_assoc] at hc
  exact ⟨b, off, x, e, Nat.lt_of_lt_of_le hlt hB.size, hd, hk, f0, f1, hc 0 _ rfl, hc 1 _ rfl, hc 2 _ rfl⟩
abbrev Plan := K.S64
@[reducible] def _root_.Go.Proofs.Ytjblfgagafmhcaa.K.S64.id (x : K.S64) : Int := x.f0
@[reducible] def _root_.Go.Proofs.Ytjblfgagafmhcaa.K.S64.ports (x : K.S64) : List Link := x.f1
def rPlan : Rp Plan where
  sz := 2
  vl := fun cs => .agg cs.toArray
  K := fun w x cs => ∃ A1 c1, cs = [.int .i64 x.id, .slice A1 x.ports.length c1] ∧ int64 x.id ∧ Sl rLink w A1 c1 x.ports
  len := by rintro w x cs ⟨A1, c1, rfl, _⟩; rfl
  one := by rintro w x cs ⟨A1, c1, rfl, _⟩ u hu; simp at hu; rcases hu with rfl | rfl <;> rfl
  below := fun hb ⟨A1, c1, e, f0, f1⟩ => ⟨A1, c1, e, f0, f1.below hb⟩
theorem Sl.atPlan {w W : World} {A : Option Addr} {c : Nat} {xs : List Plan} (h : Sl rPlan w A c xs) (hB : Below w.heap.size w W) (j : Nat) (hj : j < xs.length) :
    ∃ b off x A1 c1, A = some ⟨b, off, none⟩ ∧ b < W.heap.size ∧ xs[j]? = some x ∧ rPlan.K w x [.int .i64 x.id, .slice A1 x.ports.length c1] ∧ int64 x.id ∧ Sl rLink w A1 c1 x.ports ∧
      W.cell? ⟨b, off + j * 2, none⟩ = some (.int .i64 x.id) ∧ W.cell? ⟨b, off + j * 2 + 1, none⟩ = some (.slice A1 x.ports.length c1) := by
  obtain ⟨b, off, x, cs, e, hlt, hd, hk, hc0⟩ := h.at_ j hj
  have hc : ∀ i v, cs[i]? = some v → W.cell? ⟨b, off + (j * rPlan.sz + i), none⟩ = some v := fun i v hi => (hB.cell (p := ⟨b, _, none⟩) hlt).trans (hc0 i v hi)
  have hk' := hk
  obtain ⟨A1, c1, rfl, f0, f1⟩ := hk'
  simp only [rPlan, ← Nat.add_assoc] at hc
  exact ⟨b, off, x, _, _, e, Nat.lt_of_lt_of_le hlt hB.size, hd, hk, f0, f1, hc 0 _ rfl, hc 1 _ rfl⟩
abbrev Host := K.S91
@[reducible] def _root_.Go.Proofs.Ytjblfgagafmhcaa.K.S91.mac (x : K.S91) : Int := x.f0
@[reducible] def _root_.Go.Proofs.Ytjblfgagafmhcaa.K.S91.seg (x : K.S91) : Int := x.f1
def rHost : Rp Host where
  sz := 2
  vl := fun cs => .agg cs.toArray
  K := fun _ x cs => cs = [.int .i64 x.mac, .int .i64 x.seg] ∧ int64 x.mac ∧ int64 x.seg
  len := by rintro w x cs ⟨rfl, _⟩; rfl
  one := by rintro w x cs ⟨rfl, _⟩ u hu; simp at hu; rcases hu with rfl | rfl <;> rfl
  below := fun _ h => h
theorem Sl.atHost {w W : World} {A : Option Addr} {c : Nat} {xs : List Host} (h : Sl rHost w A c xs) (hB : Below w.heap.size w W) (j : Nat) (hj : j < xs.length) :
    ∃ b off x , A = some ⟨b, off, none⟩ ∧ b < W.heap.size ∧ xs[j]? = some x ∧ rHost.K w x [.int .i64 x.mac, .int .i64 x.seg] ∧ int64 x.mac ∧ int64 x.seg ∧
      W.cell? ⟨b, off + j * 2, none⟩ = some (.int .i64 x.mac) ∧ W.cell? ⟨b, off + j * 2 + 1, none⟩ = some (.int .i64 x.seg) := by
  obtain ⟨b, off, x, cs, e, hlt, hd, hk, hc0⟩ := h.at_ j hj
  have hc : ∀ i v, cs[i]? = some v → W.cell? ⟨b, off + (j * rHost.sz + i), none⟩ = some v := fun i v hi => (hB.cell (p := ⟨b, _, none⟩) hlt).trans (hc0 i v hi)
  have hk' := hk
  obtain ⟨rfl, f0, f1⟩ := hk'
  simp only [rHost, ← Nat.add_assoc] at hc
  exact ⟨b, off, x, e, Nat.lt_of_lt_of_le hlt hB.size, hd, hk, f0, f1, hc 0 _ rfl, hc 1 _ rfl⟩
abbrev Lan := K.S25
@[reducible] def _root_.Go.Proofs.Ytjblfgagafmhcaa.K.S25.segs (x : K.S25) : Int := x.f0
@[reducible] def _root_.Go.Proofs.Ytjblfgagafmhcaa.K.S25.plans (x : K.S25) : List Plan := x.f1
@[reducible] def _root_.Go.Proofs.Ytjblfgagafmhcaa.K.S25.hosts (x : K.S25) : List Host := x.f2
def rLan : Rp Lan where
  sz := 3
  vl := fun cs => .agg cs.toArray
  K := fun w x cs => ∃ A1 c1 A2 c2, cs = [.int .i64 x.segs, .slice A1 x.plans.length c1, .slice A2 x.hosts.length c2] ∧ int64 x.segs ∧ Sl rPlan w A1 c1 x.plans ∧ Sl rHost w A2 c2 x.hosts
  len := by rintro w x cs ⟨A1, c1, A2, c2, rfl, _⟩; rfl
  one := by rintro w x cs ⟨A1, c1, A2, c2, rfl, _⟩ u hu; simp at hu; rcases hu with rfl | rfl | rfl <;> rfl
  below := fun hb ⟨A1, c1, A2, c2, e, f0, f1, f2⟩ => ⟨A1, c1, A2, c2, e, f0, f1.below hb, f2.below hb⟩
abbrev Frame := K.S131
@[reducible] def _root_.Go.Proofs.Ytjblfgagafmhcaa.K.S131.dst (x : K.S131) : Int := x.f0
@[reducible] def _root_.Go.Proofs.Ytjblfgagafmhcaa.K.S131.src (x : K.S131) : Int := x.f1
@[reducible] def _root_.Go.Proofs.Ytjblfgagafmhcaa.K.S131.type (x : K.S131) : Int := x.f2
@[reducible] def _root_.Go.Proofs.Ytjblfgagafmhcaa.K.S131.data (x : K.S131) : ByteArray := x.f3
abbrev Entry := K.S104
@[reducible] def _root_.Go.Proofs.Ytjblfgagafmhcaa.K.S104.mac (x : K.S104) : Int := x.f0
@[reducible] def _root_.Go.Proofs.Ytjblfgagafmhcaa.K.S104.port (x : K.S104) : Int := x.f1
@[reducible] def _root_.Go.Proofs.Ytjblfgagafmhcaa.K.S104.seen (x : K.S104) : Int := x.f2
@[reducible] def _root_.Go.Proofs.Ytjblfgagafmhcaa.K.S104.static (x : K.S104) : Bool := x.f3
@[reducible] def _root_.Go.Proofs.Ytjblfgagafmhcaa.K.S50.buckets (x : K.S50) : List (List Entry) := x.f0
@[reducible] def _root_.Go.Proofs.Ytjblfgagafmhcaa.K.S50.slots (x : K.S50) : Int := x.f1
@[reducible] def _root_.Go.Proofs.Ytjblfgagafmhcaa.K.S50.age (x : K.S50) : Int := x.f2
@[reducible] def _root_.Go.Proofs.Ytjblfgagafmhcaa.K.S111.id (x : K.S111) : Int := x.f0
@[reducible] def _root_.Go.Proofs.Ytjblfgagafmhcaa.K.S111.at_ (x : K.S111) : Int := x.f1
@[reducible] def _root_.Go.Proofs.Ytjblfgagafmhcaa.K.S189.root (x : K.S189) : Int := x.f0
@[reducible] def _root_.Go.Proofs.Ytjblfgagafmhcaa.K.S189.cost (x : K.S189) : Int := x.f1
@[reducible] def _root_.Go.Proofs.Ytjblfgagafmhcaa.K.S189.bridge (x : K.S189) : Int := x.f2
@[reducible] def _root_.Go.Proofs.Ytjblfgagafmhcaa.K.S189.port (x : K.S189) : Int := x.f3
end Go.Proofs.Ytjblfgagafmhcaa.Fw
namespace Go.Proofs.Ytjblfgagafmhcaa.Fw
open Go.RowKit
def Opens {α : Type} (P : Program) (t : TypeId) (d : Rp α) : Prop :=
  ∀ {H : Type} {enc : TypeId × Value → H} (w : World) (base : Nat) (spare : Nat → Bool) (held : Bool) (fuel : Nat) (cs : List Value) (x : DataW H × List MemPlace), DataW.trod enc P w base spare held fuel t cs = some x → ∃ y, d.K w y cs
theorem opens_int {P : Program} {t : TypeId} (ht : P.underlying t = some (.int .i64)) : Opens P t rInt := by
  intro H enc w base spare held fuel cs x h
  obtain ⟨n, rfl, _, hw⟩ := Go.DataW.trod_int ht h
  refine ⟨n, rfl, ?_⟩
  simp [Lit.wf, IntKind.min, IntKind.max, IntKind.signed, IntKind.bits] at hw
  exact hw
theorem opens_bool {P : Program} {t : TypeId} (ht : P.underlying t = some .bool) : Opens P t rBool := by
  intro H enc w base spare held fuel cs x h
  obtain ⟨n, rfl, _⟩ := Go.DataW.trod_bool ht h
  exact ⟨n, rfl⟩
theorem opens_str {P : Program} {t : TypeId} (ht : P.underlying t = some .string) : Opens P t rStr := by
  intro H enc w base spare held fuel cs x h
  obtain ⟨n, rfl, _, hs⟩ := Go.DataW.trod_string ht h
  exact ⟨n, rfl, by simpa [maxLen] using hs⟩
theorem cells_get {w : World} {base n : Nat} {a : Addr} {cs : List Value} (h : w.cells? base a n = some cs) : cs.length = n ∧ ∀ i v, cs[i]? = some v → w.cell? (a.add i) = some v := by
  unfold World.cells? at h
  split at h
  · have hl := mapM_some_length h
    refine ⟨by simpa using hl, fun i v hi => ?_⟩
    have hil := (List.getElem?_eq_some_iff.1 hi).1
    have := mapM_some_get h i i (by rw [List.getElem?_range]; simpa [hl] using hil)
    rw [this]; exact hi
  · cases h
theorem opens_sl {α : Type} {P : Program} {t e : TypeId} {d : Rp α} (ht : P.underlying t = some (.slice e)) (hc : P.cellsOf e = d.sz) (he : Opens P e d) (hz : 0 < d.sz := by decide) : Opens P t (rSl d) := by
  intro H enc w base spare held fuel cs x h
  rcases Go.Deep.open_slice ht h with ⟨rfl, _⟩ | ⟨a, len, cap, m, n, D, Pl, rfl, hb, hl, hm, hmm, _, hel⟩
  · exact ⟨[], none, 0, rfl, Sl.nil _ _ _ _⟩
  · have hall : ∀ k, k ≤ len → ∃ ys : List α, ys.length = k ∧ ∀ j y, ys[j]? = some y → ∃ cs', d.K w y cs' ∧ ∀ i v, cs'[i]? = some v → w.cell? (a.add (j * d.sz + i)) = some v := by
      intro k
      induction k with
      | zero => exact fun _ => ⟨[], rfl, fun j y hj => by simp at hj⟩
      | succ k ih =>
        intro hk
        obtain ⟨ys, h1, h2⟩ := ih (by omega)
        obtain ⟨cs', h3, h4⟩ := hel k (by rw [hmm]; split <;> omega)
        obtain ⟨y, hy⟩ := he w base spare held n cs' _ h4
        rw [hc] at h3
        refine ⟨ys ++ [y], by simp [h1], fun j z hj => ?_⟩
        by_cases hlt : j < ys.length
        · rw [List.getElem?_append_left hlt] at hj
          exact h2 j z hj
        · have hj' : j = ys.length := by
            have := (List.getElem?_eq_some_iff.1 hj).1
            simp at this; omega
          subst hj'
          have hz' : y = z := by simpa using hj
          subst hz'
          refine ⟨cs', hy, fun i v hi => ?_⟩
          have := (cells_get h3).2 i v hi
          rw [Go.Deep.add_add] at this
          rw [h1]; exact this
    obtain ⟨ys, h1, h2⟩ := hall len (Nat.le_refl _)
    refine ⟨ys, some a, cap, by rw [h1], by omega, by simp only [maxLen] at hm; omega, fun hpos => ?_⟩
    obtain ⟨cs0, h3, h4⟩ := h2 0 ys[0] (List.getElem?_eq_getElem hpos)
    have hl0 := d.len h3
    have h5 := h4 0 (cs0[0]'(by omega)) (List.getElem?_eq_getElem _)
    have h6 : w.cell? a = some (cs0[0]'(by omega)) := by simpa [Addr.add] using h5
    have hsp : a.spot = none := by
      unfold World.cell? at h6
      split at h6
      · split at h6
        · cases h6
        · rename_i hn; simpa using hn
      · cases h6
    obtain ⟨b, off, sp⟩ := a
    simp only at hsp
    subst hsp
    refine ⟨b, off, rfl, World.block_lt_of_cell? w _ h6, fun j x hj => ?_⟩
    obtain ⟨cs', h7, h8⟩ := h2 j x hj
    exact ⟨cs', h7, fun i v hi => by have := h8 i v hi; rwa [add_none] at this⟩
theorem len2 {α : Type} {l : List α} (h : l.length = 2) : ∃ a0 a1, l = [a0, a1] := by
  match l, h with
  | [a0, a1], _ => exact ⟨_, _, rfl⟩
theorem len3 {α : Type} {l : List α} (h : l.length = 3) : ∃ a0 a1 a2, l = [a0, a1, a2] := by
  match l, h with
  | [a0, a1, a2], _ => exact ⟨_, _, _, rfl⟩
theorem len5 {α : Type} {l : List α} (h : l.length = 5) : ∃ a0 a1 a2 a3 a4, l = [a0, a1, a2, a3, a4] := by
  match l, h with
  | [a0, a1, a2, a3, a4], _ => exact ⟨_, _, _, _, _, rfl⟩
theorem opens_Link : Opens Try.prog 66 rLink := by
  intro H enc w base spare held fuel cs x h
  have hu := Try.underlying66
  obtain ⟨xs, m, rfl, _, hl, hx, hf⟩ := Go.DataW.trod_struct hu h
  have hc : Try.prog.cellsOf 66 = 3 := by kernel_rfl
  rw [hc] at hl
  obtain ⟨a0, a1, a2, rfl⟩ := len3 hl
  have e0 : DataW.trod enc Try.prog w base spare held m 3 ((([a0, a1, a2] : List Value).drop 0).take (Try.prog.cellsOf 3)) = xs[0]? := hf 0 _ rfl
  have hx0 : ∃ y, xs[0]? = some y := ⟨xs[0]'(by rw [hx]; decide), List.getElem?_eq_getElem _⟩
  obtain ⟨y0, hy0⟩ := hx0
  rw [hy0, show Try.prog.cellsOf 3 = 1 from by kernel_rfl] at e0
  obtain ⟨z0, k0⟩ := (opens_int Try.underlying3) _ _ _ _ _ _ _ e0
  have e1 : DataW.trod enc Try.prog w base spare held m 3 ((([a0, a1, a2] : List Value).drop 1).take (Try.prog.cellsOf 3)) = xs[1]? := hf 1 _ rfl
  have hx1 : ∃ y, xs[1]? = some y := ⟨xs[1]'(by rw [hx]; decide), List.getElem?_eq_getElem _⟩
  obtain ⟨y1, hy1⟩ := hx1
  rw [hy1, show Try.prog.cellsOf 3 = 1 from by kernel_rfl] at e1
  obtain ⟨z1, k1⟩ := (opens_int Try.underlying3) _ _ _ _ _ _ _ e1
  have e2 : DataW.trod enc Try.prog w base spare held m 4 ((([a0, a1, a2] : List Value).drop 2).take (Try.prog.cellsOf 4)) = xs[2]? := hf 2 _ rfl
  have hx2 : ∃ y, xs[2]? = some y := ⟨xs[2]'(by rw [hx]; decide), List.getElem?_eq_getElem _⟩
  obtain ⟨y2, hy2⟩ := hx2
  rw [hy2, show Try.prog.cellsOf 4 = 1 from by kernel_rfl] at e2
  obtain ⟨z2, k2⟩ := (opens_bool Try.underlying4) _ _ _ _ _ _ _ e2
  obtain ⟨q0, r0⟩ : a0 = .int .i64 z0 ∧ int64 z0 := by simpa [rInt] using k0
  obtain ⟨q1, r1⟩ : a1 = .int .i64 z1 ∧ int64 z1 := by simpa [rInt] using k1
  have q2 : a2 = .bool z2 := by simpa [rBool] using k2
  subst q0 q1 q2
  exact ⟨⟨z0, z1, z2⟩, ⟨rfl, r0, r1⟩⟩
theorem opens_Plan : Opens Try.prog 64 rPlan := by
  intro H enc w base spare held fuel cs x h
  have hu := Try.underlying64
  obtain ⟨xs, m, rfl, _, hl, hx, hf⟩ := Go.DataW.trod_struct hu h
  have hc : Try.prog.cellsOf 64 = 2 := by kernel_rfl
  rw [hc] at hl
  obtain ⟨a0, a1, rfl⟩ := len2 hl
  have e0 : DataW.trod enc Try.prog w base spare held m 3 ((([a0, a1] : List Value).drop 0).take (Try.prog.cellsOf 3)) = xs[0]? := hf 0 _ rfl
  have hx0 : ∃ y, xs[0]? = some y := ⟨xs[0]'(by rw [hx]; decide), List.getElem?_eq_getElem _⟩
  obtain ⟨y0, hy0⟩ := hx0
  rw [hy0, show Try.prog.cellsOf 3 = 1 from by kernel_rfl] at e0
  obtain ⟨z0, k0⟩ := (opens_int Try.underlying3) _ _ _ _ _ _ _ e0
  have e1 : DataW.trod enc Try.prog w base spare held m 62 ((([a0, a1] : List Value).drop 1).take (Try.prog.cellsOf 62)) = xs[1]? := hf 1 _ rfl
  have hx1 : ∃ y, xs[1]? = some y := ⟨xs[1]'(by rw [hx]; decide), List.getElem?_eq_getElem _⟩
  obtain ⟨y1, hy1⟩ := hx1
  rw [hy1, show Try.prog.cellsOf 62 = 1 from by kernel_rfl] at e1
  obtain ⟨z1, k1⟩ := (opens_sl Try.underlying62 (by kernel_rfl) opens_Link) _ _ _ _ _ _ _ e1
  obtain ⟨q0, r0⟩ : a0 = .int .i64 z0 ∧ int64 z0 := by simpa [rInt] using k0
  obtain ⟨A1, c1, q1, r1⟩ : ∃ A c, a1 = .slice A z1.length c ∧ Sl rLink w A c z1 := by simpa [rSl] using k1
  subst q0 q1
  exact ⟨⟨z0, z1⟩, ⟨A1, c1, rfl, r0, r1⟩⟩
theorem opens_Host : Opens Try.prog 91 rHost := by
  intro H enc w base spare held fuel cs x h
  have hu := Try.underlying91
  obtain ⟨xs, m, rfl, _, hl, hx, hf⟩ := Go.DataW.trod_struct hu h
  have hc : Try.prog.cellsOf 91 = 2 := by kernel_rfl
  rw [hc] at hl
  obtain ⟨a0, a1, rfl⟩ := len2 hl
  have e0 : DataW.trod enc Try.prog w base spare held m 3 ((([a0, a1] : List Value).drop 0).take (Try.prog.cellsOf 3)) = xs[0]? := hf 0 _ rfl
  have hx0 : ∃ y, xs[0]? = some y := ⟨xs[0]'(by rw [hx]; decide), List.getElem?_eq_getElem _⟩
  obtain ⟨y0, hy0⟩ := hx0
  rw [hy0, show Try.prog.cellsOf 3 = 1 from by kernel_rfl] at e0
  obtain ⟨z0, k0⟩ := (opens_int Try.underlying3) _ _ _ _ _ _ _ e0
  have e1 : DataW.trod enc Try.prog w base spare held m 3 ((([a0, a1] : List Value).drop 1).take (Try.prog.cellsOf 3)) = xs[1]? := hf 1 _ rfl
  have hx1 : ∃ y, xs[1]? = some y := ⟨xs[1]'(by rw [hx]; decide), List.getElem?_eq_getElem _⟩
  obtain ⟨y1, hy1⟩ := hx1
  rw [hy1, show Try.prog.cellsOf 3 = 1 from by kernel_rfl] at e1
  obtain ⟨z1, k1⟩ := (opens_int Try.underlying3) _ _ _ _ _ _ _ e1
  obtain ⟨q0, r0⟩ : a0 = .int .i64 z0 ∧ int64 z0 := by simpa [rInt] using k0
  obtain ⟨q1, r1⟩ : a1 = .int .i64 z1 ∧ int64 z1 := by simpa [rInt] using k1
  subst q0 q1
  exact ⟨⟨z0, z1⟩, ⟨rfl, r0, r1⟩⟩
theorem opens_Lan : Opens Try.prog 25 rLan := by
  intro H enc w base spare held fuel cs x h
  have hu := Try.underlying25
  obtain ⟨xs, m, rfl, _, hl, hx, hf⟩ := Go.DataW.trod_struct hu h
  have hc : Try.prog.cellsOf 25 = 3 := by kernel_rfl
  rw [hc] at hl
  obtain ⟨a0, a1, a2, rfl⟩ := len3 hl
  have e0 : DataW.trod enc Try.prog w base spare held m 3 ((([a0, a1, a2] : List Value).drop 0).take (Try.prog.cellsOf 3)) = xs[0]? := hf 0 _ rfl
  have hx0 : ∃ y, xs[0]? = some y := ⟨xs[0]'(by rw [hx]; decide), List.getElem?_eq_getElem _⟩
  obtain ⟨y0, hy0⟩ := hx0
  rw [hy0, show Try.prog.cellsOf 3 = 1 from by kernel_rfl] at e0
  obtain ⟨z0, k0⟩ := (opens_int Try.underlying3) _ _ _ _ _ _ _ e0
  have e1 : DataW.trod enc Try.prog w base spare held m 22 ((([a0, a1, a2] : List Value).drop 1).take (Try.prog.cellsOf 22)) = xs[1]? := hf 1 _ rfl
  have hx1 : ∃ y, xs[1]? = some y := ⟨xs[1]'(by rw [hx]; decide), List.getElem?_eq_getElem _⟩
  obtain ⟨y1, hy1⟩ := hx1
  rw [hy1, show Try.prog.cellsOf 22 = 1 from by kernel_rfl] at e1
  obtain ⟨z1, k1⟩ := (opens_sl Try.underlying22 (by kernel_rfl) opens_Plan) _ _ _ _ _ _ _ e1
  have e2 : DataW.trod enc Try.prog w base spare held m 23 ((([a0, a1, a2] : List Value).drop 2).take (Try.prog.cellsOf 23)) = xs[2]? := hf 2 _ rfl
  have hx2 : ∃ y, xs[2]? = some y := ⟨xs[2]'(by rw [hx]; decide), List.getElem?_eq_getElem _⟩
  obtain ⟨y2, hy2⟩ := hx2
  rw [hy2, show Try.prog.cellsOf 23 = 1 from by kernel_rfl] at e2
  obtain ⟨z2, k2⟩ := (opens_sl Try.underlying23 (by kernel_rfl) opens_Host) _ _ _ _ _ _ _ e2
  obtain ⟨q0, r0⟩ : a0 = .int .i64 z0 ∧ int64 z0 := by simpa [rInt] using k0
  obtain ⟨A1, c1, q1, r1⟩ : ∃ A c, a1 = .slice A z1.length c ∧ Sl rPlan w A c z1 := by simpa [rSl] using k1
  obtain ⟨A2, c2, q2, r2⟩ : ∃ A c, a2 = .slice A z2.length c ∧ Sl rHost w A c z2 := by simpa [rSl] using k2
  subst q0 q1 q2
  exact ⟨⟨z0, z1, z2⟩, ⟨A1, c1, A2, c2, rfl, r0, r1, r2⟩⟩
theorem opens_Copy : Opens Try.prog 80 rCopy := by
  intro H enc w base spare held fuel cs x h
  have hu := Try.underlying80
  obtain ⟨xs, m, rfl, _, hl, hx, hf⟩ := Go.DataW.trod_struct hu h
  have hc : Try.prog.cellsOf 80 = 5 := by kernel_rfl
  rw [hc] at hl
  obtain ⟨a0, a1, a2, a3, a4, rfl⟩ := len5 hl
  have e0 : DataW.trod enc Try.prog w base spare held m 3 ((([a0, a1, a2, a3, a4] : List Value).drop 0).take (Try.prog.cellsOf 3)) = xs[0]? := hf 0 _ rfl
  have hx0 : ∃ y, xs[0]? = some y := ⟨xs[0]'(by rw [hx]; decide), List.getElem?_eq_getElem _⟩
  obtain ⟨y0, hy0⟩ := hx0
  rw [hy0, show Try.prog.cellsOf 3 = 1 from by kernel_rfl] at e0
  obtain ⟨z0, k0⟩ := (opens_int Try.underlying3) _ _ _ _ _ _ _ e0
  have e1 : DataW.trod enc Try.prog w base spare held m 3 ((([a0, a1, a2, a3, a4] : List Value).drop 1).take (Try.prog.cellsOf 3)) = xs[1]? := hf 1 _ rfl
  have hx1 : ∃ y, xs[1]? = some y := ⟨xs[1]'(by rw [hx]; decide), List.getElem?_eq_getElem _⟩
  obtain ⟨y1, hy1⟩ := hx1
  rw [hy1, show Try.prog.cellsOf 3 = 1 from by kernel_rfl] at e1
  obtain ⟨z1, k1⟩ := (opens_int Try.underlying3) _ _ _ _ _ _ _ e1
  have e2 : DataW.trod enc Try.prog w base spare held m 3 ((([a0, a1, a2, a3, a4] : List Value).drop 2).take (Try.prog.cellsOf 3)) = xs[2]? := hf 2 _ rfl
  have hx2 : ∃ y, xs[2]? = some y := ⟨xs[2]'(by rw [hx]; decide), List.getElem?_eq_getElem _⟩
  obtain ⟨y2, hy2⟩ := hx2
  rw [hy2, show Try.prog.cellsOf 3 = 1 from by kernel_rfl] at e2
  obtain ⟨z2, k2⟩ := (opens_int Try.underlying3) _ _ _ _ _ _ _ e2
  have e3 : DataW.trod enc Try.prog w base spare held m 3 ((([a0, a1, a2, a3, a4] : List Value).drop 3).take (Try.prog.cellsOf 3)) = xs[3]? := hf 3 _ rfl
  have hx3 : ∃ y, xs[3]? = some y := ⟨xs[3]'(by rw [hx]; decide), List.getElem?_eq_getElem _⟩
  obtain ⟨y3, hy3⟩ := hx3
  rw [hy3, show Try.prog.cellsOf 3 = 1 from by kernel_rfl] at e3
  obtain ⟨z3, k3⟩ := (opens_int Try.underlying3) _ _ _ _ _ _ _ e3
  have e4 : DataW.trod enc Try.prog w base spare held m 9 ((([a0, a1, a2, a3, a4] : List Value).drop 4).take (Try.prog.cellsOf 9)) = xs[4]? := hf 4 _ rfl
  have hx4 : ∃ y, xs[4]? = some y := ⟨xs[4]'(by rw [hx]; decide), List.getElem?_eq_getElem _⟩
  obtain ⟨y4, hy4⟩ := hx4
  rw [hy4, show Try.prog.cellsOf 9 = 1 from by kernel_rfl] at e4
  obtain ⟨z4, k4⟩ := (opens_str Try.underlying9) _ _ _ _ _ _ _ e4
  obtain ⟨q0, r0⟩ : a0 = .int .i64 z0 ∧ int64 z0 := by simpa [rInt] using k0
  obtain ⟨q1, r1⟩ : a1 = .int .i64 z1 ∧ int64 z1 := by simpa [rInt] using k1
  obtain ⟨q2, r2⟩ : a2 = .int .i64 z2 ∧ int64 z2 := by simpa [rInt] using k2
  obtain ⟨q3, r3⟩ : a3 = .int .i64 z3 ∧ int64 z3 := by simpa [rInt] using k3
  obtain ⟨q4, r4⟩ : a4 = .string z4 ∧ z4.size ≤ 9223372036854775807 := by simpa [rStr] using k4
  subst q0 q1 q2 q3 q4
  exact ⟨⟨z0, z1, z2, z3, z4⟩, ⟨rfl, r0, r1, r2, r3, r4⟩⟩
end Go.Proofs.Ytjblfgagafmhcaa.Fw
namespace Go.Proofs.Ytjblfgagafmhcaa.Fw
def lanIn (n lo hi : Int) : Bool := decide (lo ≤ n) && decide (n ≤ hi)
def isAddr (a : Int) : Bool := decide (0 ≤ a) && decide (a ≤ 281474976710655)
def classOf (a : Int) : Int := if a / 16 = 103282638848 then 2 else a / 1099511627776 % 2
def isMac (a : Int) : Bool := isAddr a && (classOf a == 0)
def linkOk (segs : Int) (x : Link) : Bool := lanIn x.seg 0 (segs - 1) && lanIn x.cost 1 1000
def planOk (segs : Int) (p : Plan) : Bool := lanIn p.id 0 65535 && lanIn p.ports.length 1 8 && !(p.ports.any fun x => !linkOk segs x)
def plansOk (segs : Int) : List Plan → List Int → Bool
  | [], _ => true
  | p :: ps, met => if p.id ∈ met then false else if planOk segs p then plansOk segs ps (p.id :: met) else false
def hostsOk (segs : Int) : List Host → List Int → Bool
  | [], _ => true
  | h :: hs, met => if h.mac ∈ met then false else if isMac h.mac && lanIn h.seg 0 (segs - 1) then hostsOk segs hs (h.mac :: met) else false
def lanRight (l : Lan) : Bool := lanIn l.segs 1 8 && decide (l.plans.length ≤ 6) && decide (l.hosts.length ≤ 8) && plansOk l.segs l.plans [] && hostsOk l.segs l.hosts []
end Go.Proofs.Ytjblfgagafmhcaa.Fw
namespace Go.Proofs.Ytjblfgagafmhcaa.Fw
theorem wraps_i64' (n : Int) (h₀ : 0 ≤ n) (h₁ : n < 2 ^ 63) : IntKind.i64.wrap n = n := by rw [IntKind.wrap_i64]; omega
theorem and1_i64 (x : Int) (h0 : 0 ≤ x) (h1 : x < 2 ^ 63) : bits .and .i64 x 1 = x % 2 := bits_mask .i64 63 (by decide) wraps_i64' 1 (by decide) x h0 h1
theorem andNot_nat (a : Nat) (ha : a < 2 ^ 64) : (BitVec.ofNat 64 a &&& ~~~(15#64)).toNat = 2 ^ 4 * (a / 2 ^ 4) := by
  apply Nat.eq_of_testBit_eq
  intro i
  rw [Nat.testBit_two_pow_mul, Nat.testBit_div_two_pow, BitVec.toNat_and, Nat.testBit_and, BitVec.toNat_ofNat, Nat.mod_eq_of_lt ha, BitVec.testBit_toNat, BitVec.getLsbD_not]
  by_cases h4 : 4 ≤ i
  · have e : i - 4 + 4 = i := by omega
    by_cases h64 : i < 64
    · have : (15#64).getLsbD i = false := by
        rw [BitVec.getLsbD_ofNat]
        have : Nat.testBit 15 i = false := Nat.testBit_lt_two_pow (Nat.lt_of_lt_of_le (by decide : 15 < 2 ^ 4) (Nat.pow_le_pow_right (by decide) h4))
        simp [this]
      rw [this, e]
      simp [h4, h64]
    · have : a.testBit i = false := Nat.testBit_lt_two_pow (Nat.lt_of_lt_of_le ha (Nat.pow_le_pow_right (by decide) (by omega)))
      simp [this, e]
  · have : i = 0 ∨ i = 1 ∨ i = 2 ∨ i = 3 := by omega
    rcases this with rfl | rfl | rfl | rfl <;> simp
theorem andNot15_i64 (x : Int) (h0 : 0 ≤ x) (h1 : x < 2 ^ 63) : bits .andNot .i64 x 15 = x - x % 16 := by
  obtain ⟨a, rfl⟩ := Int.eq_ofNat_of_zero_le h0
  have ha : a < 2 ^ 63 := by exact_mod_cast h1
  have e : bits .andNot .i64 (a : Int) 15 = IntKind.i64.wrap ((BitVec.ofNat 64 a &&& ~~~(15#64)).toNat : Int) := by
    unfold bits
    rfl
  rw [e, andNot_nat a (by omega), wraps_i64' _ (by omega) (by omega)]
  omega
theorem ret_ii {k k' : IntKind} {a a' b b' : Int} (h : a = a') (h' : b = b') : Ending.returned (.tuple #[.int k a, .int k' b]) = .returned (.tuple #[.int k a', .int k' b']) := by rw [h, h']
end Go.Proofs.Ytjblfgagafmhcaa.Fw
namespace Go.Proofs.Ytjblfgagafmhcaa.Fw
open Go.RowKit
theorem macRight_any (a : Int) (w : World) : Calls Try.prog 121 #[.int .i64 a] w fun e w' => e = .returned (.bool (isAddr a)) ∧ w = w' := by
  by_cases h : 0 ≤ a <;> by_cases h2 : a ≤ 281474976710655
  all_goals
    go_enter Try.func121, Try.ntmps121
    go_wp2
    go_ret
    exact ⟨ret_bool (by simp [isAddr, h, h2]), rfl⟩
theorem lanIn_any (n lo hi : Int) (w : World) : Calls Try.prog 85 #[.int .i64 n, .int .i64 lo, .int .i64 hi] w fun e w' => e = .returned (.bool (lanIn n lo hi)) ∧ w = w' := by
  by_cases h : lo ≤ n <;> by_cases h2 : n ≤ hi
  all_goals
    go_enter Try.func85, Try.ntmps85
    go_wp2
    go_ret
    exact ⟨ret_bool (by simp [lanIn, h, h2]), rfl⟩
theorem class_bad (a : Int) (w : World) (ha : isAddr a = false) : Calls Try.prog 87 #[.int .i64 a] w fun e w' => e = .returned (.tuple #[.int .i64 0, .int .i64 1]) ∧ w = w' := by
  go_enter Try.func87, Try.ntmps87
  go_wp2_with (go_at_call 121; refine (macRight_any _ _).mono ?_; rintro e w' ⟨rfl, rfl⟩)
  go_ret2
  exact ⟨rfl, rfl⟩
theorem class_ok (a : Int) (w : World) (ha : isAddr a = true) : Calls Try.prog 87 #[.int .i64 a] w fun e w' => e = .returned (.tuple #[.int .i64 (classOf a), .int .i64 0]) ∧ w = w' := by
  go_enter Try.func87, Try.ntmps87
  go_wp2_with (go_at_call 121; refine (macRight_any _ _).mono ?_; rintro e w' ⟨rfl, rfl⟩)
  all_goals go_ret2
  all_goals
    have hh : 0 ≤ a ∧ a ≤ 281474976710655 := by simpa [isAddr] using ha
    have e1 := andNot15_i64 a hh.1 (by omega)
    have e2 := and1_i64 (a / 1099511627776) (by omega) (by omega)
  · rename_i hc
    rw [e1] at hc
    have hc' : a - a % 16 = 1652522221568 := by simpa using hc
    exact ⟨ret_ii (by unfold classOf; rw [if_pos (by omega)]) rfl, rfl⟩
  · rename_i hc
    rw [e1] at hc
    have hc' : ¬ a - a % 16 = 1652522221568 := by simpa using hc
    exact ⟨ret_ii (by unfold classOf; rw [if_neg (by omega)]; exact e2) rfl, rfl⟩
end Go.Proofs.Ytjblfgagafmhcaa.Fw
