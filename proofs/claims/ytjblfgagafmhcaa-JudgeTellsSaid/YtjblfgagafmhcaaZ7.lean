/- Part 7 of the proof of one statement: what is written for it by hand and by a program of this seat's, over the given program's form. Conditions: none. -/
import Derived.Test.YtjblfgagafmhcaaZ6
import Derived.Test.YtjblfgagafmhcaaZ4
import Derived.Test.YtjblfgagafmhcaaZ5
import Derived.Test.YtjblfgagafmhcaaProg
import Derived.DeepKeys4
set_option linter.unusedVariables false
set_option linter.unusedSimpArgs false
namespace Go.Proofs.Ytjblfgagafmhcaa.Fw
open Go.RowKit
open Go.Proofs.YtjblfgagafmhcaaW.PrintWords (Kd ReadsRow OwnRow Reps encs Drawn0)
theorem addr_spot {w : World} {ad : Addr} {u : Value} (h : w.cell? ad = some u) : ad.spot = none ∧ ad.block < w.heap.size := by
  have hlt := World.block_lt_of_cell? w _ h
  refine ⟨?_, hlt⟩
  unfold World.cell? at h
  split at h
  · split at h
    · cases h
    · rename_i hs
      simpa using hs
  · cases h
theorem sl_of_C {α : Type} {d : Kd α} {D : Rp α} {w : World} {A : Option Addr} {n c : Nat} {xs : List α} (hs : d.sz = D.sz) (h0 : 0 < D.sz) (h : Kd.C d w A n xs) (hc : n ≤ c) (hK : ∀ x ∈ xs, ∀ cs, d.K w x cs → D.K w x cs) : Sl D w A c xs := by
  obtain ⟨h1, h2, h3⟩ := h
  refine ⟨by omega, by omega, fun hp => ?_⟩
  obtain ⟨ad, e, hx⟩ := h3 (by omega)
  obtain ⟨c0, l0, k0, q0⟩ := hx 0 xs[0] (List.getElem?_eq_getElem hp)
  have hq := q0 0 c0[0] (List.getElem?_eq_getElem (by omega))
  rw [show ad.add (0 * d.sz + 0) = ad from by simp [Addr.add]] at hq
  obtain ⟨hsp, hlt⟩ := addr_spot hq
  obtain ⟨b, off, sp⟩ := ad
  obtain rfl : sp = none := hsp
  refine ⟨b, off, e, hlt, fun j x hj => ?_⟩
  obtain ⟨cs, l1, k1, q1⟩ := hx j x hj
  refine ⟨cs, hK x (List.mem_of_getElem? hj) cs k1, fun i v hi => ?_⟩
  have := q1 i v hi
  rw [add_none, hs] at this
  exact this
def okLink (x : Link) : Prop := int64 x.seg ∧ int64 x.cost
def okPlan (x : Plan) : Prop := int64 x.id ∧ ∀ l ∈ x.ports, okLink l
def okHost (x : Host) : Prop := int64 x.mac ∧ int64 x.seg
def okCopy (x : Copy) : Prop := int64 x.at_ ∧ int64 x.seg ∧ int64 x.bridge ∧ int64 x.port ∧ x.raw.size ≤ 9223372036854775807
theorem slLink {w : World} {A : Option Addr} {n c : Nat} {xs : List Link} (h : Kd.C K.k66 w A n xs) (hc : n ≤ c) (ok : ∀ x ∈ xs, okLink x) : Sl rLink w A c xs :=
  sl_of_C rfl (by decide) h hc fun x hx cs hk => ⟨K.k66_open hk, ok x hx⟩
theorem slPlan {w : World} {A : Option Addr} {n c : Nat} {xs : List Plan} (h : Kd.C K.k64 w A n xs) (hc : n ≤ c) (ok : ∀ x ∈ xs, okPlan x) : Sl rPlan w A c xs :=
  sl_of_C rfl (by decide) h hc fun x hx cs hk => by
    obtain ⟨A1, c1, e, l1, g1⟩ := K.k64_open hk
    exact ⟨A1, c1, e, (ok x hx).1, slLink g1 l1 (ok x hx).2⟩
theorem slHost {w : World} {A : Option Addr} {n c : Nat} {xs : List Host} (h : Kd.C K.k91 w A n xs) (hc : n ≤ c) (ok : ∀ x ∈ xs, okHost x) : Sl rHost w A c xs :=
  sl_of_C rfl (by decide) h hc fun x hx cs hk => ⟨K.k91_open hk, ok x hx⟩
theorem slCopy {w : World} {A : Option Addr} {n c : Nat} {xs : List Copy} (h : Kd.C K.k80 w A n xs) (hc : n ≤ c) (ok : ∀ x ∈ xs, okCopy x) : Sl rCopy w A c xs :=
  sl_of_C rfl (by decide) h hc fun x hx cs hk => ⟨K.k80_open hk, ok x hx⟩
theorem slInt {w : World} {A : Option Addr} {n c : Nat} {xs : List Int} (h : Kd.C (Kd.int .i64) w A n xs) (hc : n ≤ c) (ok : ∀ x ∈ xs, int64 x) : Sl rInt w A c xs :=
  sl_of_C rfl (by decide) h hc fun x hx cs hk => ⟨hk, ok x hx⟩
theorem slBool {w : World} {A : Option Addr} {n c : Nat} {xs : List Bool} (h : Kd.C Kd.bool w A n xs) (hc : n ≤ c) : Sl rBool w A c xs :=
  sl_of_C rfl (by decide) h hc fun x _ cs hk => hk
theorem slBools {w : World} {A : Option Addr} {n c : Nat} {xs : List (List Bool)} (h : Kd.C (Kd.slice 4 Kd.bool) w A n xs) (hc : n ≤ c) : Sl (rSl rBool) w A c xs :=
  sl_of_C rfl (by decide) h hc fun x _ cs hk => by
    obtain ⟨A1, c1, e, l1, g1⟩ := hk
    exact ⟨A1, c1, e, slBool g1 l1⟩
theorem R_ints {e : TypeId} {w0 w : World} {base : Nat} {v : Value} {xs : List Int} (h : Own rInt e w0 w base v xs) : Kd.R (Kd.int .i64) e w base (fun _ => True) v xs :=
  Kd.R_of_own (enc := Value.int .i64) (h1 := fun _ => rfl) (h.ints).1 (fun _ _ => trivial)
end Go.Proofs.Ytjblfgagafmhcaa.Fw
namespace Go.Proofs.Ytjblfgagafmhcaa.Fw
open Go.RowKit Go.Maps
theorem laidOut : laidOutB Try.prog = true := by kernel_rfl
structure Key where
  seg : Int
  raw : ByteArray
  deriving DecidableEq
def encK (x : Key) : Value := .agg #[.int .i64 x.seg, .string x.raw]
def okK (x : Key) : Prop := int64 x.seg ∧ x.raw.size ≤ 9223372036854775807
theorem rowK : (86 : TypeId) < Try.prog.types.size := of_decide_eq_true (by kernel_rfl)
theorem wideK : (match Try.prog.underlying 86 with | some (.array _ _) | some (.struct _) => true | _ => false) = true := by kernel_rfl
set_option maxRecDepth 100000 in
theorem lawK : Go.WideMaps.KeyLaw Try.prog 86 := deep_law_laid laidOut (m := 2) (by omega) rowK (by kernel_rfl) wideK
theorem typeK : Try.prog.keyType 86 = true := by kernel_rfl
theorem cellsK : Try.prog.cellsOf 86 = 2 := by kernel_rfl
theorem cells_int : Try.prog.cellsOf 3 = 1 := by kernel_rfl
theorem cells_string : Try.prog.cellsOf 9 = 1 := by kernel_rfl
theorem litsK (n : Nat) (x : Key) (hx : okK x) : Try.prog.keyLits (n + 2) 86 [.int .i64 x.seg, .string x.raw] = some [.int .i64 x.seg, .string x.raw.data.toList] := by
  have hw : (Lit.int .i64 x.seg).wf = true := WalkArith.wf_i64 hx.1
  have hs : x.raw.size ≤ maxLen := by have := hx.2; unfold maxLen; omega
  simp [Program.keyLits, Try.underlying86, cellsK, cells_int, cells_string, Try.underlying3, Try.underlying9, hw, hs]
theorem keyOfK (x : Key) (hx : okK x) : ∃ l, keyOf Try.prog 86 (encK x) = some l := by
  have h0 : (86 : Nat) < Try.prog.types.size := rowK
  obtain ⟨n, hn⟩ : ∃ n, Try.prog.types.size + 1 = n + 2 := ⟨Try.prog.types.size - 1, by omega⟩
  have hf : (encK x).formed Try.prog 86 = true := by simp [Value.formed, Try.underlying86, cellsK, encK]
  refine ⟨.string (keyBytes [.int .i64 x.seg, .string x.raw.data.toList]), ?_⟩
  unfold keyOf
  rw [Try.underlying86]
  simp only [typeK, hf, hn]
  have := litsK n x hx
  simp [encK, Value.cells, this]
theorem keyK : KeyOk Try.prog 86 encK okK where
  law := Keyed.of_law lawK
  of := keyOfK
  inj x y h := by
    cases x; cases y
    simpa [encK] using h
end Go.Proofs.Ytjblfgagafmhcaa.Fw
namespace Go.Proofs.Ytjblfgagafmhcaa.Fw
open Go.RowKit
def keyC (c : Copy) : Key := ⟨c.seg, c.raw⟩
def twiceFrom : List Copy → List Key → Nat → Int
  | [], _, _ => -1
  | c :: cs, met, k => if keyC c ∈ met then (k : Int) else twiceFrom cs (keyC c :: met) (k + 1)
set_option maxRecDepth 100000 in
theorem odd_on (B : Nat) (segs : Int) (w : World) (hB : B < w.heap.size) (hc : w.cell? ⟨B, 0, none⟩ = some (.int .i64 segs)) :
    PredOn Try.prog 83 #[.pointer (some ⟨B, 0, none⟩)] rCopy (fun x => decide (x.seg < 0) || decide (segs ≤ x.seg)) w := by
  intro W x cs hb hK
  obtain ⟨rfl, f0, f1⟩ := hK
  have hc' := (hb.cell (p := ⟨B, 0, none⟩) hB).trans hc
  have hne : ∀ o, (W.alloc o).cell? ⟨B, 0, none⟩ = some (.int .i64 segs) := fun o => (World.cell?_alloc_past _ _ _ (Nat.lt_of_lt_of_le hB hb.size)).trans hc'
  have HE := Lib.hid (fun o => hb.alloc hb.size o)
  clear hb
  simp only [rCopy]
  by_cases h1 : x.seg < 0
  · go_enter Try.func83, Try.ntmps83
    go_wp2
    go_ret
    exact ⟨ret_bool (by simp [h1]), HE.out _⟩
  · by_cases h2 : segs ≤ x.seg
    all_goals
      go_enter Try.func83, Try.ntmps83
      go_wp2
      go_ret
      exact ⟨ret_bool (by simp [h1, h2]), HE.out _⟩
theorem odd_any (segs : Int) (w : World) : Calls Try.prog 46 #[.int .i64 segs] w fun e w' => e = .returned (.func (.func 83) #[] #[.pointer (some ⟨w.heap.size, 0, none⟩)]) ∧ w' = w.alloc (.cells #[.int .i64 segs] 3) := by
  have hmf : ∀ (fn : Fn) (first cap : Array Value) (w : World), (Instr.makeFunc fn first cap).run Try.prog w = .ok (.func fn first cap) w := fun _ _ _ _ => rfl
  go_enter Try.func46, Try.ntmps46
  go_wp2
  go_ret
  exact ⟨rfl, rfl⟩
theorem keyOf_any (c : Copy) (w : World) : Calls Try.prog 47 #[.agg #[.int .i64 c.at_, .int .i64 c.seg, .int .i64 c.bridge, .int .i64 c.port, .string c.raw]] w fun e w' => e = .returned (encK (keyC c)) ∧
    w' = (w.alloc (.cells #[.int .i64 c.at_, .int .i64 c.seg, .int .i64 c.bridge, .int .i64 c.port, .string c.raw] 80)).alloc (.cells #[.int .i64 c.seg, .string c.raw] 86) := by
  go_enter Try.func47, Try.ntmps47
  go_wp2
  exact bodyPost_ret (v := encK (keyC c)) (by simp [results, Try.results47, go_sem, encK, keyC]) rfl ⟨rfl, rfl⟩
theorem keyOf_below (c : Copy) (w : World) : Calls Try.prog 47 #[.agg #[.int .i64 c.at_, .int .i64 c.seg, .int .i64 c.bridge, .int .i64 c.port, .string c.raw]] w fun e w' => e = .returned (encK (keyC c)) ∧ Below w.heap.size w w' :=
  (keyOf_any c w).mono fun _ _ ⟨h1, h2⟩ => ⟨h1, h2 ▸ below2 _ _ _⟩
theorem not_any_odd {segs : Int} {l : List Copy} : (l.any fun x => decide (x.seg < 0) || decide (segs ≤ x.seg)) = !(l.all fun x => lanIn x.seg 0 (segs - 1)) := by
  rw [Bool.eq_iff_iff]
  simp [lanIn]
  constructor
  · rintro ⟨x, hx, h⟩; exact ⟨x, hx, by omega⟩
  · rintro ⟨x, hx, h⟩; exact ⟨x, hx, by omega⟩
def SetF {κ : Type} (f : κ → Option Value) (met : List κ) : Prop := ∀ x, (x ∈ met → f x = some (.bool true)) ∧ (x ∉ met → f x = none)
theorem SetF.nil {κ : Type} : SetF (fun _ : κ => none) [] := fun x => ⟨fun h => by simp at h, fun _ => rfl⟩
theorem SetF.cons {κ : Type} {f : κ → Option Value} {met : List κ} (h : SetF f met) (x : κ) : SetF (put f x (.bool true)) (x :: met) := fun y => by
  by_cases e : y = x
  · subst e; exact ⟨fun _ => put_same _ _ _, fun h => absurd List.mem_cons_self h⟩
  · rw [put_other f _ e]
    exact ⟨fun hm => (h y).1 (by simpa [e] using hm), fun hm => (h y).2 (fun q => hm (List.mem_cons_of_mem _ q))⟩
theorem SetF.ok {κ : Type} {f : κ → Option Value} {met : List κ} (h : SetF f met) {ok : κ → Prop} (hm : ∀ x ∈ met, ok x) : ∀ y v, f y = some v → ok y := fun y v hf => by
  by_cases e : y ∈ met
  · exact hm y e
  · rw [(h y).2 e] at hf; cases hf
set_option maxHeartbeats 1000000 in
set_option maxRecDepth 100000 in
theorem twice_any (l : List Copy) (A : Option Addr) (c : Nat) (w : World) (hS : Sl rCopy w A c l) :
    Calls Try.prog 14 #[.slice A l.length c] w fun e w' => e = .returned (.int .i64 (twiceFrom l [] 0)) ∧ Below w.heap.size w w' := by
  have hmm := @run_makeMap Try.prog
  have hn := hS.bound
  have HS := Lib.hid hS
  clear hS
  have hz : ∀ w, (zeroValue 4).run Try.prog w = .ok (.bool false) w := fun w => by kernel_rfl
  go_enter Try.func14, Try.ntmps14
  go_wp2
  go_loopg [9] l.length (fun gg s9 wr => ∃ (kk : Nat) (f : Key → Option Value) (met : List Key), kk ≤ l.length ∧ l.length - kk ≤ gg ∧ s9 = .int .i64 kk ∧
    Aside (Below w.heap.size w wr) ∧ Aside (MapF encK wr w.heap.size kk f) ∧ Aside (SetF f met) ∧ Aside (∀ x ∈ met, okK x) ∧ Aside (twiceFrom (l.drop kk) met kk = twiceFrom l [] 0))
  case atStart => exact ⟨0, fun _ => none, [], Nat.zero_le _, by omega, rfl, aside ((Below.refl _ _).alloc (Nat.le_refl _) _), aside (MapF.made encK w), aside SetF.nil, aside (fun x hx => by simp at hx), aside rfl⟩
  case round =>
    obtain ⟨kk, f, met, hkk, hg, rfl, BW, M, HF, HM, HR⟩ := hrel
    by_cases hlt : kk < l.length
    · have hlz : (kk : Int) < (l.length : Int) := by omega
      obtain ⟨b, off, x, rfl, hb, hd, hK, f0, f1, f2, f3, f4, q0, q1, q2, q3, q4⟩ := HS.out.atCopy BW.out kk hlt
      have HR1 := HR.out
      rw [drop_of_get hd, twiceFrom] at HR1
      have HR2 := Lib.hid HR1
      clear hK HR1 hd HR
      have HA := Lib.hid (HF.out.ok HM.out)
      have hkx : okK (keyC x) := ⟨f1, f4⟩
      by_cases hm : keyC x ∈ met
      · have h3 := HR2.out
        rw [if_pos hm] at h3
        have hfx := (HF.out (keyC x)).1 hm
        have H3 := Lib.hid h3
        have HFX := Lib.hid hfx
        clear h3 hfx hm
        go_wp2_with (first
          | (go_at_call 47; refine (keyOf_below x _).mono ?_; rintro e w1 ⟨rfl, hb1⟩; have hl : Sem.run Try.prog (Instr.lookup 93 (.map (some w.heap.size)) (encK (keyC x)) false) w1 = .ok (.bool true) w1 := (by have := ((M.out.alloc _).below hb1).look keyK HA.out Try.underlying93 (hz _) (keyC x) hkx false; simpa [HFX.out] using this)))
        go_ret
        exact ⟨ret_int H3.out, (BW.out.alloc BW.out.size _).trans (hb1.mono (by have := BW.out.size; simp; omega))⟩
      · have h3 := HR2.out
        rw [if_neg hm] at h3
        have hfx := (HF.out (keyC x)).2 hm
        have H3 := Lib.hid h3
        have HFX := Lib.hid hfx
        have HA2 := Lib.hid (show ∀ y v, put f (keyC x) (.bool true) y = some v → okK y from fun y v h => by
          by_cases e : y = keyC x
          · subst e; exact hkx
          · rw [put_other f _ e] at h; exact HA.out y v h)
        clear h3 hfx hm
        go_wp2_with fail
        refine (keyOf_below x _).mono ?_
        rintro e w1 ⟨rfl, hb1⟩
        have M1 := aside ((M.out.alloc _).below hb1)
        have hl : Sem.run Try.prog (Instr.lookup 93 (.map (some w.heap.size)) (encK (keyC x)) false) w1 = .ok (.bool false) w1 := (by
          have := M1.out.look keyK HA.out Try.underlying93 (hz _) (keyC x) hkx false
          simpa [HFX.out] using this)
        have r0 := blk_cell (i := 0) (blk_below (blk_new wr _) hb1) rfl
        have r1 := blk_cell (i := 1) (blk_below (blk_new wr _) hb1) rfl
        have r2 := blk_cell (i := 2) (blk_below (blk_new wr _) hb1) rfl
        have r3 := blk_cell (i := 3) (blk_below (blk_new wr _) hb1) rfl
        have r4 := blk_cell (i := 4) (blk_below (blk_new wr _) hb1) rfl
        have hb2 := (BW.out.alloc BW.out.size _).trans (hb1.mono (by have := BW.out.size; simp; omega))
        go_wp2_with fail
        refine (keyOf_below x _).mono ?_
        rintro e w2 ⟨rfl, hb3⟩
        have M2 := aside (M1.out.below hb3)
        have hb4 := hb2.trans (hb3.mono hb2.size)
        go_wp2_with (at_mapUpdate; refine wpList_storeF _ rfl _ _ _ 93 rfl keyK Try.underlying93 _ _ f rfl M2.out HA.out (keyC x) rfl hkx (.bool true) rfl ?_; intro w3 hM3 hg3)
        go_roundg (l.length - (kk + 1))
        case measure => omega
        case rel => exact ⟨kk + 1, _, keyC x :: met, by omega, by omega, by go_num, aside (below_grown hb4 hg3 hb4.size (fun k hk => by cases hk; exact Nat.le_refl _)), aside hM3, aside (HF.out.cons _), aside (all_cons hkx HM.out), H3.out⟩
    · have hlz : ¬ (kk : Int) < (l.length : Int) := by omega
      obtain rfl : kk = l.length := by omega
      have h1 := HR.out
      rw [drop_end, twiceFrom] at h1
      have H1 := Lib.hid h1
      clear h1
      go_wp2
      go_ret
      exact ⟨ret_int H1.out, BW.out⟩
def countC (l : List Copy) (k : Key) : Nat := (l.map keyC).count k
def whereL (l : List Copy) (raw : ByteArray) (segs : Nat) : List Int := (List.range segs).map fun (s : Nat) => ((countC l ⟨(s : Int), raw⟩ : Nat) : Int)
def CntF (f : Key → Option Value) (pre : List Copy) : Prop := ∀ x, f x = if countC pre x = 0 then none else some (.int .i64 (countC pre x))
theorem countC_snoc (l : List Copy) (c : Copy) (k : Key) : countC (l ++ [c]) k = countC l k + if keyC c = k then 1 else 0 := by
  simp [countC, List.count_append, List.count_singleton]
theorem CntF.nil : CntF (fun _ => none) [] := fun x => by simp [countC]
theorem CntF.get {f : Key → Option Value} {pre : List Copy} (h : CntF f pre) (x : Key) : (f x).getD (.int .i64 0) = .int .i64 (countC pre x) := by
  rw [h x]; split <;> simp_all
theorem CntF.snoc {f : Key → Option Value} {pre : List Copy} (h : CntF f pre) (c : Copy) : CntF (put f (keyC c) (.int .i64 ((countC pre (keyC c) : Int) + 1))) (pre ++ [c]) := fun x => by
  rw [countC_snoc]
  by_cases e : x = keyC c
  · subst e; rw [put_same]; simp
  · rw [put_other _ _ e, h x, show (if keyC c = x then 1 else 0) = 0 from if_neg (fun q => e q.symm), Nat.add_zero]
  /- · rw [put_other _ _ e, h x, if_neg (show ¬ keyC c = x from fun q => e q.symm), Nat.add_zero] -/
theorem CntF.ok {f : Key → Option Value} {pre : List Copy} (h : CntF f pre) (hok : ∀ c ∈ pre, okK (keyC c)) : ∀ y v, f y = some v → okK y := fun y v hf => by
  rw [h y] at hf
  split at hf
  · cases hf
  · rename_i hne
    have : 0 < (pre.map keyC).count y := by unfold countC at hne; omega
    obtain ⟨c, hc, rfl⟩ := List.mem_map.1 (List.count_pos_iff.1 this)
    exact hok c hc
theorem countC_le (l : List Copy) (k : Key) : countC l k ≤ l.length := by
  have := List.count_le_length (a := k) (l := l.map keyC)
  simpa [countC] using this
theorem take_snoc {α : Type} {xs : List α} {j : Nat} {x : α} (h : xs[j]? = some x) : xs.take (j + 1) = xs.take j ++ [x] := by
  obtain ⟨hl, rfl⟩ := List.getElem?_eq_some_iff.1 h
  rw [List.take_succ_eq_append_getElem hl]
theorem info_int : (Try.prog.info? 3).map (fun i => (i.zero, i.size, i.bytes)) = some (some (.int .i64 0), 1, 8) := by kernel_rfl
set_option maxHeartbeats 1000000 in
set_option maxRecDepth 100000 in
theorem where_any (l : List Copy) (raw : ByteArray) (segs : Int) (A : Option Addr) (c : Nat) (w : World) (hS : Sl rCopy w A c l) (hl : l.length ≤ 1000000) (hraw : raw.size ≤ 9223372036854775807) (h1 : 1 ≤ segs) (h2 : segs ≤ 8) (hok : (l.all fun x => lanIn x.seg 0 (segs - 1)) = true) :
    Calls Try.prog 11 #[.slice A l.length c, .string raw, .int .i64 segs] w fun e w' => ∃ v, e = .returned (.tuple #[v, .int .i64 0]) ∧ Own rInt 3 w w' w.heap.size v (whereL l raw segs.toNat) ∧ Below w.heap.size w w' := by
  have hmm := @run_makeMap Try.prog
  have hn := hS.bound
  have HS := Lib.hid hS
  have HO := Lib.hid hok
  clear hS hok
  have hz : ∀ w, (zeroValue 3).run Try.prog w = .ok (.int .i64 0) w := fun w => by kernel_rfl
  have EG := Lib.hid (show Enters Try.prog 83 from enters_of Try.func83 (by kernel_rfl) rfl)
  have HODD := Lib.hid (show (l.any fun x => decide (x.seg < 0) || decide (segs ≤ x.seg)) = false from by rw [not_any_odd, HO.out]; rfl)
  go_enter Try.func11, Try.ntmps11
  go_wp2_with (first
    | (go_at_call 46; refine (odd_any _ _).mono ?_; rintro e w' ⟨rfl, rfl⟩)
    | (go_at_call 45; refine (containsFunc_Copy _ _ EG.out _ _ _ _ _ (HS.out.below ((Below.refl _ _).alloc (Nat.le_refl _) _)) (odd_on _ segs _ (by simp) (by rw [World.cell?_alloc_at _ _ _ _ rfl]; rfl))).mono ?_; rw [HODD.out]; rintro e w0 ⟨rfl, hb0⟩))
  have hok : ∀ x ∈ l, okK (keyC x) := fun x hx => by
    obtain ⟨cs, _, _, f1, _, _, f4⟩ := HS.out.all x hx
    exact ⟨f1, f4⟩
  have HOK := Lib.hid hok
  have hwb : Below w.heap.size w w0 := ((Below.refl _ _).alloc (Nat.le_refl _) _).trans (hb0.mono (by simp))
  have hwb0 := hwb.size
  clear hok hb0
  go_loopg [28] l.length (fun gg s28 wr => ∃ (kk : Nat) (f : Key → Option Value), kk ≤ l.length ∧ l.length - kk ≤ gg ∧ s28 = .int .i64 kk ∧
    Aside (Below w.heap.size w wr) ∧ Aside (MapF encK wr w0.heap.size kk f) ∧ Aside (CntF f (l.take kk)))
  case atStart => exact ⟨0, fun _ => none, Nat.zero_le _, by omega, rfl, aside (hwb.alloc hwb.size _), aside (MapF.made encK w0), aside CntF.nil⟩
  case round =>
    obtain ⟨kk, f, hkk, hg, rfl, BW, M, HF⟩ := hrel
    by_cases hlt : kk < l.length
    · have hlz : (kk : Int) < (l.length : Int) := by omega
      obtain ⟨b, off, x, rfl, hb, hd, hK, f0, f1, f2, f3, f4, q0, q1, q2, q3, q4⟩ := HS.out.atCopy BW.out kk hlt
      have HD := Lib.hid hd
      clear hK hd
      have HA := Lib.hid (HF.out.ok (fun c hc => HOK.out c (List.mem_of_mem_take hc)))
      have hkx : okK (keyC x) := ⟨f1, f4⟩
      have hcl : countC (l.take kk) (keyC x) ≤ 1000000 := Nat.le_trans (countC_le _ _) (by rw [List.length_take]; omega)
      have W1 := ((wr.alloc (.cells #[.int .i64 x.at_, .int .i64 x.seg, .int .i64 x.bridge, .int .i64 x.port, .string x.raw] 80)).alloc (.cells #[.int .i64 x.at_, .int .i64 x.seg, .int .i64 x.bridge, .int .i64 x.port, .string x.raw] 80)).alloc (.cells #[.int .i64 x.seg, .string x.raw] 86)
      have hM1 : MapF encK ((((wr.alloc (.cells #[.int .i64 x.at_, .int .i64 x.seg, .int .i64 x.bridge, .int .i64 x.port, .string x.raw] 80)).alloc (.cells #[.int .i64 x.at_, .int .i64 x.seg, .int .i64 x.bridge, .int .i64 x.port, .string x.raw] 80)).alloc (.cells #[.int .i64 x.seg, .string x.raw] 86)).drew) w0.heap.size kk f := ((M.out.alloc _).alloc _).alloc _
      have hg1 := hM1.look keyK HA.out Try.underlying84 (hz _) (keyC x) hkx false
      obtain ⟨w2, st, he, hM2, hg2, hst⟩ := hM1.entry keyK HA.out Try.underlying84 (hz _) (keyC x) hkx
      have HA2 := Lib.hid (show ∀ y v, put f (keyC x) ((f (keyC x)).getD (.int .i64 0)) y = some v → okK y from fun y v h => by
          by_cases e : y = keyC x
          · subst e; exact hkx
          · rw [put_other f _ e] at h; exact HA.out y v h)
      have hg3 := hM2.look keyK HA2.out Try.underlying84 (hz _) (keyC x) hkx false
      obtain ⟨w3, hs3, hM3, hg4⟩ := hst (.int .i64 (IntKind.i64.wrap ((countC (l.take kk) (keyC x) : Int) + 1)))
      rw [put_same] at hg3
      rw [HF.out.get] at he hg1 hg3
      simp only [Bool.false_eq_true, if_false, Option.getD_some] at hg1 hg3
      rw [show IntKind.i64.wrap ((countC (l.take kk) (keyC x) : Int) + 1) = (countC (l.take kk) (keyC x) : Int) + 1 from by rw [IntKind.wrap_i64]; omega] at hM3
      have HM3 := Lib.hid hM3
      clear hM1 hM2 hM3 hst W1
      go_wp2_with fail
      go_outline
      go_region_with (go_at_call 47; refine (keyOf_any x _).mono ?_; rintro e w' ⟨rfl, rfl⟩)
      all_goals
        go_wp2
        go_roundg (l.length - (kk + 1))
        case measure => omega
        case rel =>
          have hb5 : Below w.heap.size w w3 := below_grown (below_grown (((BW.out.alloc BW.out.size _).alloc (by have := BW.out.size; simp; omega) _).alloc (by have := BW.out.size; simp; omega) _).drew hg2 (by have := BW.out.size; simp; omega) (fun k hk => by cases hk; exact hwb.size)) hg4 (by have := BW.out.size; have := hg2.size; simp at this; omega) (fun k hk => by cases hk; exact hwb.size)
          exact ⟨kk + 1, _, by omega, by omega, by go_num, aside hb5, aside HM3.out, aside (by rw [take_snoc HD.out]; exact HF.out.snoc x)⟩
    · have hlz : ¬ (kk : Int) < (l.length : Int) := by omega
      obtain rfl : kk = l.length := by omega
      have HF2 := HF.out
      rw [List.take_length] at HF2
      have HF3 := Lib.hid HF2
      clear HF HF2
      go_wp2
      have hsn : ((segs.toNat : Nat) : Int) = segs := by omega
      have HSN := Lib.hid hsn
      have hs8 : segs.toNat ≤ 8 := by omega
      clear hsn
      go_loopg [11, 41] segs.toNat (fun gg s11 s41 wr => ∃ (kk : Nat), kk ≤ segs.toNat ∧ segs.toNat - kk ≤ gg ∧ s41 = .int .i64 kk ∧
        Aside (Below w.heap.size w wr) ∧ Aside (∃ n f, MapF encK wr w0.heap.size n f ∧ CntF f l) ∧ Aside (Own rInt 3 w wr w.heap.size s11 (whereL l raw kk)))
      case atStart => exact ⟨0, Nat.zero_le _, by omega, rfl, BW, aside ⟨_, f, M.out, HF3.out⟩, aside (Own.nil _ _ _ _ _)⟩
      case round =>
        clear BW M HF3
        obtain ⟨kk, hkk, hg, rfl, BW, M, HW⟩ := hrel
        by_cases hlt : kk < segs.toNat
        · have hlz : (kk : Int) < segs := by omega
          have hll : (whereL l raw kk).length = kk := by simp [whereL]
          have hl : Sem.run Try.prog (Instr.lookup 84 (.map (some w0.heap.size)) (.agg #[.int .i64 (kk : Int), .string raw]) false) wr = .ok (.int .i64 (countC l ⟨(kk : Int), raw⟩)) wr := by
            obtain ⟨n, f, hm, hf⟩ := M.out
            have := hm.look keyK (hf.ok HOK.out) Try.underlying84 (hz _) ⟨(kk : Int), raw⟩ ⟨show int64 (kk : Int) from ⟨by omega, by omega⟩, hraw⟩ false
            rw [hf.get] at this
            exact this
          have hcl := countC_le l ⟨(kk : Int), raw⟩
          have HLL := Lib.hid hll
          clear hll
          go_wp2_with (at_builtin; refine wpList_append1 rInt w.heap.size rfl _ _ 31 3 (.int .i64 0) 8 rfl Try.underlying31 info_int rfl (by decide) (by decide) _ _ (countC l ⟨(kk : Int), raw⟩ : Int) [.int .i64 (countC l ⟨(kk : Int), raw⟩)] rfl rfl ⟨rfl, by constructor <;> omega⟩ HW.out BW.out.size (by rw [HLL.out]; omega) ?_; intro v1 w1 hO1 hg1)
          go_roundg (segs.toNat - (kk + 1))
          case measure => omega
          case rel =>
            obtain ⟨n, f, hm, hf⟩ := M.out
            exact ⟨kk + 1, by omega, by omega, by go_num, aside (below_grown BW.out hg1 BW.out.size (fun k hk => (HW.out.lt k hk).1)), aside ⟨n, f, hm.grown hg1 (hm.ne_own HW.out), hf⟩, aside (by rw [show whereL l raw (kk + 1) = whereL l raw kk ++ [(countC l ⟨(kk : Int), raw⟩ : Int)] from by simp [whereL, List.range_succ]]; exact hO1)⟩
        · have hlz : ¬ (kk : Int) < segs := by omega
          obtain rfl : kk = segs.toNat := by omega
          go_wp2
          go_ret2
          exact ⟨_, rfl, HW.out, BW.out⟩
end Go.Proofs.Ytjblfgagafmhcaa.Fw
namespace Go.Proofs.Ytjblfgagafmhcaa.Fw
open Go.RowKit
def whereE (l : List Copy) (segs : Int) : Int := if segs < 1 ∨ 8 < segs then 2 else if (l.all fun x => lanIn x.seg 0 (segs - 1)) = true then 0 else 1
set_option maxRecDepth 100000 in
theorem where_full (l : List Copy) (raw : ByteArray) (segs : Int) (A : Option Addr) (c : Nat) (w : World) (hS : Sl rCopy w A c l) (hl : l.length ≤ 1000000) (hraw : raw.size ≤ 9223372036854775807) :
    Calls Try.prog 11 #[.slice A l.length c, .string raw, .int .i64 segs] w fun e w' => ∃ v, e = .returned (.tuple #[v, .int .i64 (whereE l segs)]) ∧ Own rInt 3 w w' w.heap.size v (if whereE l segs = 0 then whereL l raw segs.toNat else []) ∧ Below w.heap.size w w' := by
  by_cases h1 : segs < 1
  · have he : whereE l segs = 2 := if_pos (.inl h1)
    rw [he, if_neg (by decide)]
    have hb : Below w.heap.size w (w.alloc (.cells #[.int .i64 segs] 3)) := (Below.refl _ _).alloc (Nat.le_refl _) _
    have HB := Lib.hid hb
    clear he hS hb
    go_enter Try.func11, Try.ntmps11
    go_wp2
    go_ret2
    exact ⟨_, rfl, Own.nil _ _ _ _ _, Below.refl _ _⟩
  · by_cases h2 : 8 < segs
    · have he : whereE l segs = 2 := if_pos (.inr h2)
      rw [he, if_neg (by decide)]
      clear he hS
      go_enter Try.func11, Try.ntmps11
      go_wp2
      go_ret2
      exact ⟨_, rfl, Own.nil _ _ _ _ _, Below.refl _ _⟩
    · cases ho : l.all fun x => lanIn x.seg 0 (segs - 1)
      · have he : whereE l segs = 1 := by unfold whereE; rw [if_neg (by omega), if_neg (by rw [ho]; decide)]
        rw [he, if_neg (by decide)]
        have HS := Lib.hid hS
        have EG := Lib.hid (show Enters Try.prog 83 from enters_of Try.func83 (by kernel_rfl) rfl)
        have HODD := Lib.hid (show (l.any fun x => decide (x.seg < 0) || decide (segs ≤ x.seg)) = true from by rw [not_any_odd, ho]; rfl)
        clear he hS ho
        go_enter Try.func11, Try.ntmps11
        go_wp2_with (first
          | (go_at_call 46; refine (odd_any _ _).mono ?_; rintro e w' ⟨rfl, rfl⟩)
          | (go_at_call 45; refine (containsFunc_Copy _ _ EG.out _ _ _ _ _ (HS.out.below ((Below.refl _ _).alloc (Nat.le_refl _) _)) (odd_on _ segs _ (by simp) (by rw [World.cell?_alloc_at _ _ _ _ rfl]; rfl))).mono ?_; rw [HODD.out]; rintro e w0 ⟨rfl, hb0⟩))
        go_ret2
        exact ⟨_, rfl, Own.nil _ _ _ _ _, ((Below.refl _ _).alloc (Nat.le_refl _) _).trans (hb0.mono (by simp))⟩
      · have he : whereE l segs = 0 := by unfold whereE; rw [if_neg (by omega), if_pos ho]
        rw [he, if_pos rfl]
        exact where_any l raw segs A c w hS hl hraw (by omega) (by omega) ho
end Go.Proofs.Ytjblfgagafmhcaa.Fw
namespace Go.Proofs.Ytjblfgagafmhcaa.Fw
open Go.RowKit
def segOk (n : Int) (x : Copy) : Bool := lanIn x.seg 0 (n - 1)
theorem Sl.take {α : Type} {d : Rp α} {w : World} {A : Option Addr} {c : Nat} {xs : List α} (h : Sl d w A c xs) (i : Nat) : Sl d w A c (xs.take i) := by
  obtain ⟨h1, h2, h3⟩ := h
  refine ⟨by rw [List.length_take]; omega, by rw [List.length_take]; omega, fun hp => ?_⟩
  obtain ⟨b, off, e, hlt, hx⟩ := h3 (by rw [List.length_take] at hp; omega)
  refine ⟨b, off, e, hlt, fun j x hj => hx j x ?_⟩
  rw [List.getElem?_take] at hj
  split at hj
  · exact hj
  · cases hj
theorem rawNe {a b : ByteArray} (h : ¬ a = b) : (a.toList == b.toList) = false := by
  rw [Bool.eq_false_iff]
  intro e
  rw [beq_iff_eq, ByteArray.toList_eq, ByteArray.toList_eq] at e
  exact h (by cases a; cases b; simp at e; rw [e])
theorem refSegs_any (l : List Copy) (n : Int) (A : Option Addr) (c : Nat) (w : World) (hS : Sl rCopy w A c l) :
    Calls Try.prog 17 #[.slice A l.length c, .int .i64 n] w fun e w' => e = .returned (.bool (l.all (segOk n))) ∧ Below w.heap.size w w' := by
  have hn := hS.bound
  have HS := Lib.hid hS
  clear hS
  go_enter Try.func17, Try.ntmps17
  go_wp2
  go_loopg [9] l.length (fun gg s9 wr => ∃ (kk : Nat), kk ≤ l.length ∧ l.length - kk ≤ gg ∧ s9 = .int .i64 kk ∧ Aside (Below w.heap.size w wr) ∧ Aside ((l.drop kk).all (segOk n) = l.all (segOk n)))
  case atStart => exact ⟨0, Nat.zero_le _, by omega, rfl, aside (Below.refl _ _), aside rfl⟩
  case round =>
    obtain ⟨kk, hkk, hg, rfl, BW, HR⟩ := hrel
    by_cases hlt : kk < l.length
    · have hlz : (kk : Int) < (l.length : Int) := by omega
      obtain ⟨b, off, x, rfl, hb, hd, hK, f0, f1, f2, f3, f4, q0, q1, q2, q3, q4⟩ := HS.out.atCopy BW.out kk hlt
      have HR2 := Lib.hid (all_of_drop hd HR.out)
      clear hK hd HR
      by_cases h1 : x.seg < 0
      · go_wp2
        go_ret
        exact ⟨ret_bool (by rw [← HR2.out]; simp [segOk, lanIn]; omega), BW.out.alloc BW.out.size _⟩
      · by_cases h2 : n ≤ x.seg
        · go_wp2
          go_ret
          exact ⟨ret_bool (by rw [← HR2.out]; simp [segOk, lanIn]; omega), BW.out.alloc BW.out.size _⟩
        · go_wp2
          go_roundg (l.length - (kk + 1))
          case measure => omega
          case rel => exact ⟨kk + 1, by omega, by omega, by go_num, aside (BW.out.alloc BW.out.size _), aside (by rw [← HR2.out, show segOk n x = true from by simp [segOk, lanIn]; omega]; rfl)⟩
    · have hlz : ¬ (kk : Int) < (l.length : Int) := by omega
      obtain rfl : kk = l.length := by omega
      have H1 := Lib.hid HR.out
      go_wp2
      go_ret
      exact ⟨ret_bool (by rw [← H1.out, drop_end]; rfl), BW.out⟩
def firstSeg (l : List Copy) (raw : ByteArray) : Int := ((l.find? fun c => decide (c.raw = raw)).map fun c => c.seg).getD 0
theorem refFirst_any (l : List Copy) (raw : ByteArray) (A : Option Addr) (c : Nat) (w : World) (hS : Sl rCopy w A c l) :
    Calls Try.prog 52 #[.slice A l.length c, .string raw] w fun e w' => e = .returned (.int .i64 (firstSeg l raw)) ∧ Below w.heap.size w w' := by
  have hn := hS.bound
  have HS := Lib.hid hS
  clear hS
  go_enter Try.func52, Try.ntmps52
  go_wp2
  go_loopg [9] l.length (fun gg s9 wr => ∃ (kk : Nat), kk ≤ l.length ∧ l.length - kk ≤ gg ∧ s9 = .int .i64 kk ∧ Aside (Below w.heap.size w wr) ∧ Aside (firstSeg (l.drop kk) raw = firstSeg l raw))
  case atStart => exact ⟨0, Nat.zero_le _, by omega, rfl, aside (Below.refl _ _), aside rfl⟩
  case round =>
    obtain ⟨kk, hkk, hg, rfl, BW, HR⟩ := hrel
    by_cases hlt : kk < l.length
    · have hlz : (kk : Int) < (l.length : Int) := by omega
      obtain ⟨b, off, x, rfl, hb, hd, hK, f0, f1, f2, f3, f4, q0, q1, q2, q3, q4⟩ := HS.out.atCopy BW.out kk hlt
      have HR2 := Lib.hid (by have := HR.out; rwa [drop_of_get hd] at this : firstSeg (x :: l.drop (kk + 1)) raw = firstSeg l raw)
      clear hK hd HR
      by_cases h1 : x.raw = raw
      · go_wp2
        go_ret
        exact ⟨ret_int (by rw [← HR2.out]; simp [firstSeg, h1]), BW.out.alloc BW.out.size _⟩
      · have hq := rawNe h1
        go_wp2
        go_roundg (l.length - (kk + 1))
        case measure => omega
        case rel => exact ⟨kk + 1, by omega, by omega, by go_num, aside (BW.out.alloc BW.out.size _), aside (by rw [← HR2.out]; simp [firstSeg, h1])⟩
    · have hlz : ¬ (kk : Int) < (l.length : Int) := by omega
      obtain rfl : kk = l.length := by omega
      have H1 := Lib.hid HR.out
      go_wp2
      go_ret
      exact ⟨ret_int (by rw [← H1.out, drop_end]; rfl), BW.out⟩
def keyEq (x y : Copy) : Bool := decide (x.seg = y.seg) && decide (x.raw = y.raw)
theorem keyEq_any (l : List Copy) (x : Copy) : l.any (keyEq x) = true ↔ keyC x ∈ l.map keyC := by
  simp only [List.any_eq_true, List.mem_map, keyEq, keyC, Bool.and_eq_true, decide_eq_true_eq, Key.mk.injEq]
  constructor
  · rintro ⟨y, hy, h1, h2⟩; exact ⟨y, hy, h1.symm, h2.symm⟩
  · rintro ⟨y, hy, h1, h2⟩; exact ⟨y, hy, h1.symm, h2.symm⟩
set_option maxHeartbeats 1000000 in
theorem refTwice_any (l : List Copy) (A : Option Addr) (c : Nat) (w : World) (hS : Sl rCopy w A c l) :
    Calls Try.prog 15 #[.slice A l.length c] w fun e w' => e = .returned (.int .i64 (twiceFrom l [] 0)) ∧ Below w.heap.size w w' := by
  have hn := hS.bound
  have hcap := hS.1
  have HS := Lib.hid hS
  clear hS
  go_enter Try.func15, Try.ntmps15
  go_wp2
  go_loopg [3, 9] l.length (fun gg _ s9 wr => ∃ (kk : Nat), kk ≤ l.length ∧ l.length - kk ≤ gg ∧ s9 = .int .i64 kk ∧ Aside (Below w.heap.size w wr) ∧ Aside (twiceFrom (l.drop kk) ((l.take kk).map keyC).reverse kk = twiceFrom l [] 0))
  case atStart => exact ⟨0, Nat.zero_le _, by omega, rfl, aside (Below.refl _ _), aside rfl⟩
  case round =>
    obtain ⟨kk, hkk, hg, rfl, BW, HR⟩ := hrel
    by_cases hlt : kk < l.length
    · have hlz : (kk : Int) < (l.length : Int) := by omega
      have hkc : kk ≤ c := by omega
      obtain ⟨b, off, x, rfl, hb, hd, hK, f0, f1, f2, f3, f4, q0, q1, q2, q3, q4⟩ := HS.out.atCopy BW.out kk hlt
      have HR2 := Lib.hid (by have := HR.out; rwa [drop_of_get hd, twiceFrom] at this : (if keyC x ∈ ((l.take kk).map keyC).reverse then (kk : Int) else twiceFrom (l.drop (kk + 1)) (keyC x :: ((l.take kk).map keyC).reverse) (kk + 1)) = twiceFrom l [] 0)
      have HD := Lib.hid hd
      clear hK HR hd
      go_wp2
      go_loopg [18] kk (fun gg s18 w2 => ∃ (jj : Nat), jj ≤ kk ∧ kk - jj ≤ gg ∧ s18 = .int .i64 jj ∧ Aside (Below w.heap.size w w2) ∧ Aside (w2.heap[wr.heap.size]? = some (.cells #[.int .i64 x.at_, .int .i64 x.seg, .int .i64 x.bridge, .int .i64 x.port, .string x.raw] 80 (0, 0))) ∧ Aside (((l.take kk).drop jj).any (keyEq x) = (l.take kk).any (keyEq x)))
      case atStart => exact ⟨0, Nat.zero_le _, by omega, rfl, aside (BW.out.alloc BW.out.size _), aside (blk_new _ _), aside rfl⟩
      case round =>
        obtain ⟨jj, hjj, hg2, rfl, BW2, X0, HI⟩ := hrel
        by_cases hlt2 : jj < kk
        · have hlz2 : (jj : Int) < (kk : Int) := by omega
          obtain ⟨b', off', y, he, hb', hd', hK', g0, g1, g2, g3, g4, p0, p1, p2, p3, p4⟩ := (HS.out.take kk).atCopy BW2.out jj (by rw [List.length_take]; omega)
          cases he
          have HI2 := Lib.hid (any_of_drop hd' HI.out)
          clear hK' HI hd'
          have r1 := fun o => blk_cell (i := 1) (blk_alloc X0.out o) rfl
          have r4 := fun o => blk_cell (i := 4) (blk_alloc X0.out o) rfl
          by_cases h1 : x.seg = y.seg
          · by_cases h2 : x.raw = y.raw
            · go_wp2
              go_ret
              refine ⟨ret_int ?_, BW2.out.alloc BW2.out.size _⟩
              rw [← HR2.out, if_pos (List.mem_reverse.2 ((keyEq_any _ _).1 (by rw [← HI2.out]; simp [keyEq, h1, h2])))]
            · have hq := rawNe h2
              go_wp2
              go_roundg (kk - (jj + 1))
              case measure => omega
              case rel => exact ⟨jj + 1, by omega, by omega, by go_num, aside (BW2.out.alloc BW2.out.size _), aside (blk_alloc X0.out _), aside (by rw [← HI2.out]; simp [keyEq, h2])⟩
          · go_wp2
            go_roundg (kk - (jj + 1))
            case measure => omega
            case rel => exact ⟨jj + 1, by omega, by omega, by go_num, aside (BW2.out.alloc BW2.out.size _), aside (blk_alloc X0.out _), aside (by rw [← HI2.out]; simp [keyEq, h1])⟩
        · have hlz2 : ¬ (jj : Int) < (kk : Int) := by omega
          obtain rfl : jj = kk := by omega
          have hno : keyC x ∉ ((l.take jj).map keyC).reverse := fun hm => by
            have := (keyEq_any _ _).2 (List.mem_reverse.1 hm)
            rw [← HI.out, List.drop_of_length_le (by rw [List.length_take]; omega)] at this
            simp at this
          have HR3 := Lib.hid (by have := HR2.out; rwa [if_neg hno] at this : twiceFrom (l.drop (jj + 1)) (keyC x :: ((l.take jj).map keyC).reverse) (jj + 1) = twiceFrom l [] 0)
          clear HR2 hno
          go_wp2
          go_roundg (l.length - (jj + 1))
          case measure => omega
          case rel => exact ⟨jj + 1, by omega, by omega, by go_num, BW2, aside (by rw [← HR3.out, take_snoc HD.out]; simp)⟩
    · have hlz : ¬ (kk : Int) < (l.length : Int) := by omega
      obtain rfl : kk = l.length := by omega
      have H1 := Lib.hid HR.out
      go_wp2
      go_ret
      exact ⟨ret_int (by rw [← H1.out, drop_end]; rfl), BW.out⟩
end Go.Proofs.Ytjblfgagafmhcaa.Fw
namespace Go.Proofs.Ytjblfgagafmhcaa.K
open Go.RowKit Go.Proofs.YtjblfgagafmhcaaW.PrintWords Go.Proofs.YtjblfgagafmhcaaW.PrintLast Go.Proofs.YtjblfgagafmhcaaW.PrintMore
attribute [local go_sem] max2_int min2_int max_two min_two max_three min_three max_four min_four   -- for this text's walks alone
set_option linter.unusedVariables false
set_option linter.unusedSimpArgs false
noncomputable section
def errW : Option Int → Value
 | none => .nilIface
 | some c => .iface 0 (.int .i64 c)
theorem errW_none : errW none = .nilIface := rfl
theorem errW_some (c : Int) : errW (some c) = .iface 0 (.int .i64 c) := rfl
theorem info3 : (Try.prog.info? 3).map (fun i => (i.zero, i.size, i.bytes)) = some (some (.int .i64 0), 1, 8) := by kernel_rfl
theorem info4 : (Try.prog.info? 4).map (fun i => (i.zero, i.size, i.bytes)) = some (some (.bool false), 1, 1) := by kernel_rfl
theorem info64 : (Try.prog.info? 64).map (fun i => (i.zero, i.size, i.bytes)) = some (some (.agg #[(.int .i64 0), (.slice none 0 0)]), 2, 32) := by kernel_rfl
theorem info66 : (Try.prog.info? 66).map (fun i => (i.zero, i.size, i.bytes)) = some (some (.agg #[(.int .i64 0), (.int .i64 0), (.bool false)]), 3, 24) := by kernel_rfl
theorem info67 : (Try.prog.info? 67).map (fun i => (i.zero, i.size, i.bytes)) = some (some (.slice none 0 0), 1, 24) := by kernel_rfl
theorem info91 : (Try.prog.info? 91).map (fun i => (i.zero, i.size, i.bytes)) = some (some (.agg #[(.int .i64 0), (.int .i64 0)]), 2, 16) := by kernel_rfl
end
end Go.Proofs.Ytjblfgagafmhcaa.K
