/- Part 31 of the proof of one statement: what is written for it by hand and by a program of this seat's, over the given program's form. Conditions: none. -/
import Derived.Test.YtjblfgagafmhcaaZ7
import Derived.Test.YtjblfgagafmhcaaZ28
import Derived.Test.YtjblfgagafmhcaaZ17
import Derived.Test.YtjblfgagafmhcaaZ12
import Derived.Test.YtjblfgagafmhcaaZ13
import Derived.Test.YtjblfgagafmhcaaZ22
import Derived.Test.YtjblfgagafmhcaaZ27
import Derived.Test.YtjblfgagafmhcaaZ21
import Derived.Test.YtjblfgagafmhcaaZ15
import Derived.Test.YtjblfgagafmhcaaZ29
import Derived.Test.YtjblfgagafmhcaaZ30
set_option linter.unusedVariables false
set_option linter.unusedSimpArgs false
namespace Go.Proofs.Ytjblfgagafmhcaa.K
open Go.RowKit Go.Proofs.YtjblfgagafmhcaaW.PrintWords Go.Proofs.YtjblfgagafmhcaaW.PrintLast Go.Proofs.YtjblfgagafmhcaaW.PrintMore
attribute [local go_sem] max2_int min2_int max_two min_two max_three min_three max_four min_four   -- for this text's walks alone
set_option linter.unusedVariables false
set_option linter.unusedSimpArgs false
noncomputable section
mutual
def footwaylaw20_JudgeTells.j0 : Nat → List (List Bool) → List (S80) → ByteArray → Int → Int → List Int → Int → Int → Int → List Int → Int → Bool → Int → List (S64) → List (S91) → Option (Bool)
 | 0, _, _, _, _, _, _, _, _, _, _, _, _, _, _, _ => none
 | k + 1, x1, x2, x3, x4, x5, x13, x14, x15, x16, x17, x18, x59, x235000, x235001, x235002 => if x59 = true then (some false) else (if x4 < 1 then (footwaylaw20_JudgeTells.j1 k x1 x2 x3 x4 x5 x13 x14 x15 x16 x17 x18 true x235000 x235001 x235002) else (footwaylaw20_JudgeTells.j1 k x1 x2 x3 x4 x5 x13 x14 x15 x16 x17 x18 (decide (x4 > 8)) x235000 x235001 x235002))
def footwaylaw20_JudgeTells.j2 : Nat → List (List Bool) → List (S80) → Int → Int → Int → List Int → Int → Int → List (S64) → List (S91) → Option (Bool)
 | 0, _, _, _, _, _, _, _, _, _, _ => none
 | k + 1, x1, x2, x5, x15, x16, x17, x18, x235000, x235001, x235002 => (footwayref17_May.f k x235000 x235001 x235002 x1).bind fun t266 => (if t266 = true then ((footwayref20_Segs.f x2 x235000).bind fun t267 => (footwaylaw20_JudgeTells.j3 k x1 x2 x5 x15 x16 x17 x18 (!t267) x235000 x235001 x235002)) else (footwaylaw20_JudgeTells.j3 k x1 x2 x5 x15 x16 x17 x18 true x235000 x235001 x235002))
def footwaylaw20_JudgeTells.j3 : Nat → List (List Bool) → List (S80) → Int → Int → Int → List Int → Int → Bool → Int → List (S64) → List (S91) → Option (Bool)
 | 0, _, _, _, _, _, _, _, _, _, _, _ => none
 | k + 1, x1, x2, x5, x15, x16, x17, x18, x108, x235000, x235001, x235002 => if x108 = true then (if x16 = 1 then (if x15 = 0 then (footwaylaw20_JudgeTells.j4 k x2 x5 x17 x18 x235000 x235001 x235002) else (some false)) else (some false)) else (if x16 = 0 then ((footwayref20_Stray.f k x235000 x235001 x235002 x1 x2).bind fun t268 => (if x15 = t268 then (footwaylaw20_JudgeTells.j4 k x2 x5 x17 x18 x235000 x235001 x235002) else (some false))) else (some false))
def footwaylaw20_JudgeTells.j4 : Nat → List (S80) → Int → List Int → Int → Int → List (S64) → List (S91) → Option (Bool)
 | 0, _, _, _, _, _, _, _ => none
 | k + 1, x2, x5, x17, x18, x235000, x235001, x235002 => (footwayref15_Right.f k x235000 x235001 x235002).bind fun t269 => (if t269 = true then (if x5 < 0 then (footwaylaw20_JudgeTells.j5 k x2 x5 x17 x18 true x235000 x235001 x235002) else (footwaylaw20_JudgeTells.j5 k x2 x5 x17 x18 (decide (x5 ≥ (x235002.length : Int))) x235000 x235001 x235002)) else (if x18 = 1 then (some ((x17.length : Int) == 0)) else (some false)))
def footwaylaw20_JudgeTells.j5 : Nat → List (S80) → Int → List Int → Int → Bool → Int → List (S64) → List (S91) → Option (Bool)
 | 0, _, _, _, _, _, _, _, _ => none
 | k + 1, x2, x5, x17, x18, x136, x235000, x235001, x235002 => if x136 = true then (if x18 = 3 then (some ((x17.length : Int) == 0)) else (some false)) else (if x18 = 0 then ((footwayref20_Hears.f k x235000 x235001 x235002 x2 x5).bind fun t270 => ((footwayref06_Same.f k x17 t270).bind fun t273 => (some t273))) else (some false))
def footwaylaw20_JudgeTells.j1 : Nat → List (List Bool) → List (S80) → ByteArray → Int → Int → List Int → Int → Int → Int → List Int → Int → Bool → Int → List (S64) → List (S91) → Option (Bool)
 | 0, _, _, _, _, _, _, _, _, _, _, _, _, _, _, _ => none
 | k + 1, x1, x2, x3, x4, x5, x13, x14, x15, x16, x17, x18, x60, x235000, x235001, x235002 => if x60 = true then (if x14 = 2 then (if (x13.length : Int) = 0 then (footwaylaw20_JudgeTells.j2 k x1 x2 x5 x15 x16 x17 x18 x235000 x235001 x235002) else (some false)) else (some false)) else ((footwayref20_Segs.f x2 x4).bind fun t261 => (if t261 = true then (if x14 = 0 then ((footwayref20_Where.f k x2 x3 x4).bind fun t262 => ((footwayref06_Same.f k x13 t262).bind fun t265 => (if t265 = true then (footwaylaw20_JudgeTells.j2 k x1 x2 x5 x15 x16 x17 x18 x235000 x235001 x235002) else (some false)))) else (some false)) else (if x14 = 1 then (if (x13.length : Int) = 0 then (footwaylaw20_JudgeTells.j2 k x1 x2 x5 x15 x16 x17 x18 x235000 x235001 x235002) else (some false)) else (some false))))
end
def footwaylaw20_JudgeTells.f (k : Nat) (a0_0 : Int) (l0_1 : List (S64)) (l0_2 : List (S91)) (l1 : List (List Bool)) (l2 : List (S80)) (a3 : ByteArray) (a4 : Int) (a5 : Int) : Option (Bool) := (footwaylaw20_cut.f k a0_0 l0_1 l0_2).bind fun bt235 => ((footwaylaw20_rows.f k l1).bind fun t242 => ((footwaylaw20_few.f l2).bind fun t245 => (if 0 ≤ (mn (a3.size : Int) 130) then (if (mn (a3.size : Int) 130) ≤ (a3.size : Int) then ((judge_Where.f t245 (a3.extract 0 ((mn (a3.size : Int) 130) : Int).toNat) a4).bind fun bt248 => ((judge_Stray.f bt235.1 bt235.2.1 bt235.2.2 t242 t245).bind fun bt252 => ((judge_Hears.f k bt235.1 bt235.2.1 bt235.2.2 t245 a5).bind fun bt254 => ((judge_Twice.f t245).bind fun t258 => ((footwayref20_Twice.f t245).bind fun t259 => (if t258 = t259 then ((footwaylaw20_alive.f).bind fun t260 => (footwaylaw20_JudgeTells.j0 k t242 t245 (a3.extract 0 ((mn (a3.size : Int) 130) : Int).toNat) a4 a5 bt248.1 bt248.2 bt252.1 bt252.2 bt254.1 bt254.2 (!t260) bt235.1 bt235.2.1 bt235.2.2)) else (footwaylaw20_JudgeTells.j0 k t242 t245 (a3.extract 0 ((mn (a3.size : Int) 130) : Int).toNat) a4 a5 bt248.1 bt248.2 bt252.1 bt252.2 bt254.1 bt254.2 true bt235.1 bt235.2.1 bt235.2.2))))))) else (none)) else (none))))
theorem footwaylaw20_JudgeTells.mono_l : ∀ k, (∀ y0 y1 y2 y3 y4 y5 y6 y7 y8 y9 y10 y11 y12 y13 y14, LeO (footwaylaw20_JudgeTells.j0 k y0 y1 y2 y3 y4 y5 y6 y7 y8 y9 y10 y11 y12 y13 y14) (footwaylaw20_JudgeTells.j0 (k + 1) y0 y1 y2 y3 y4 y5 y6 y7 y8 y9 y10 y11 y12 y13 y14)) ∧ (∀ y0 y1 y2 y3 y4 y5 y6 y7 y8 y9, LeO (footwaylaw20_JudgeTells.j2 k y0 y1 y2 y3 y4 y5 y6 y7 y8 y9) (footwaylaw20_JudgeTells.j2 (k + 1) y0 y1 y2 y3 y4 y5 y6 y7 y8 y9)) ∧ (∀ y0 y1 y2 y3 y4 y5 y6 y7 y8 y9 y10, LeO (footwaylaw20_JudgeTells.j3 k y0 y1 y2 y3 y4 y5 y6 y7 y8 y9 y10) (footwaylaw20_JudgeTells.j3 (k + 1) y0 y1 y2 y3 y4 y5 y6 y7 y8 y9 y10)) ∧ (∀ y0 y1 y2 y3 y4 y5 y6, LeO (footwaylaw20_JudgeTells.j4 k y0 y1 y2 y3 y4 y5 y6) (footwaylaw20_JudgeTells.j4 (k + 1) y0 y1 y2 y3 y4 y5 y6)) ∧ (∀ y0 y1 y2 y3 y4 y5 y6 y7, LeO (footwaylaw20_JudgeTells.j5 k y0 y1 y2 y3 y4 y5 y6 y7) (footwaylaw20_JudgeTells.j5 (k + 1) y0 y1 y2 y3 y4 y5 y6 y7)) ∧ (∀ y0 y1 y2 y3 y4 y5 y6 y7 y8 y9 y10 y11 y12 y13 y14, LeO (footwaylaw20_JudgeTells.j1 k y0 y1 y2 y3 y4 y5 y6 y7 y8 y9 y10 y11 y12 y13 y14) (footwaylaw20_JudgeTells.j1 (k + 1) y0 y1 y2 y3 y4 y5 y6 y7 y8 y9 y10 y11 y12 y13 y14))
 | 0 => ⟨fun _ _ _ _ _ _ _ _ _ _ _ _ _ _ _ r h => by simp [footwaylaw20_JudgeTells.j0] at h, fun _ _ _ _ _ _ _ _ _ _ r h => by simp [footwaylaw20_JudgeTells.j2] at h, fun _ _ _ _ _ _ _ _ _ _ _ r h => by simp [footwaylaw20_JudgeTells.j3] at h, fun _ _ _ _ _ _ _ r h => by simp [footwaylaw20_JudgeTells.j4] at h, fun _ _ _ _ _ _ _ _ r h => by simp [footwaylaw20_JudgeTells.j5] at h, fun _ _ _ _ _ _ _ _ _ _ _ _ _ _ _ r h => by simp [footwaylaw20_JudgeTells.j1] at h⟩
 | k + 1 => by
  obtain ⟨ih0, ih1, ih2, ih3, ih4, ih5⟩ := footwaylaw20_JudgeTells.mono_l k
  refine ⟨?_, ?_, ?_, ?_, ?_, ?_⟩
  ·intro y0 y1 y2 y3 y4 y5 y6 y7 y8 y9 y10 y11 y12 y13 y14
   unfold footwaylaw20_JudgeTells.j0
   repeat' first
   | (with_reducible exact ih0 _ _ _ _ _ _ _ _ _ _ _ _ _ _ _)
   | (with_reducible exact ih1 _ _ _ _ _ _ _ _ _ _)
   | (with_reducible exact ih2 _ _ _ _ _ _ _ _ _ _ _)
   | (with_reducible exact ih3 _ _ _ _ _ _ _)
   | (with_reducible exact ih4 _ _ _ _ _ _ _ _)
   | (with_reducible exact ih5 _ _ _ _ _ _ _ _ _ _ _ _ _ _ _)
   | (with_reducible exact footwaylaw20_cut.mono _ _ _ _)
   | (with_reducible exact footwaylaw20_rows.mono _ _)
   | (with_reducible exact footwayref06_Same.mono _ _ _)
   | (with_reducible exact footwayref15_Right.mono _ _ _ _)
   | (with_reducible exact footwayref17_May.mono _ _ _ _ _)
   | (with_reducible exact footwayref20_Hears.mono _ _ _ _ _ _)
   | (with_reducible exact footwayref20_Stray.mono _ _ _ _ _ _)
   | (with_reducible exact footwayref20_Where.mono _ _ _ _)
   | (with_reducible exact judge_Hears.mono _ _ _ _ _ _)
   | (with_reducible exact LeO.refl _)
   | (with_reducible exact LeO.none _)
   | (with_reducible refine LeO.ite ?_ ?_)
   | (with_reducible refine LeO.bind ?_ (fun _ => ?_))
   | exact ih0 _ _ _ _ _ _ _ _ _ _ _ _ _ _ _
   | exact ih1 _ _ _ _ _ _ _ _ _ _
   | exact ih2 _ _ _ _ _ _ _ _ _ _ _
   | exact ih3 _ _ _ _ _ _ _
   | exact ih4 _ _ _ _ _ _ _ _
   | exact ih5 _ _ _ _ _ _ _ _ _ _ _ _ _ _ _
   | exact footwaylaw20_cut.mono _ _ _ _
   | exact footwaylaw20_rows.mono _ _
   | exact footwayref06_Same.mono _ _ _
   | exact footwayref15_Right.mono _ _ _ _
   | exact footwayref17_May.mono _ _ _ _ _
   | exact footwayref20_Hears.mono _ _ _ _ _ _
   | exact footwayref20_Stray.mono _ _ _ _ _ _
   | exact footwayref20_Where.mono _ _ _ _
   | exact judge_Hears.mono _ _ _ _ _ _
   | exact LeO.none _
   | refine LeO.ite ?_ ?_
   | refine LeO.bind ?_ (fun _ => ?_)
  ·intro y0 y1 y2 y3 y4 y5 y6 y7 y8 y9
   unfold footwaylaw20_JudgeTells.j2
   repeat' first
   | (with_reducible exact ih0 _ _ _ _ _ _ _ _ _ _ _ _ _ _ _)
   | (with_reducible exact ih1 _ _ _ _ _ _ _ _ _ _)
   | (with_reducible exact ih2 _ _ _ _ _ _ _ _ _ _ _)
   | (with_reducible exact ih3 _ _ _ _ _ _ _)
   | (with_reducible exact ih4 _ _ _ _ _ _ _ _)
   | (with_reducible exact ih5 _ _ _ _ _ _ _ _ _ _ _ _ _ _ _)
   | (with_reducible exact footwaylaw20_cut.mono _ _ _ _)
   | (with_reducible exact footwaylaw20_rows.mono _ _)
   | (with_reducible exact footwayref06_Same.mono _ _ _)
   | (with_reducible exact footwayref15_Right.mono _ _ _ _)
   | (with_reducible exact footwayref17_May.mono _ _ _ _ _)
   | (with_reducible exact footwayref20_Hears.mono _ _ _ _ _ _)
   | (with_reducible exact footwayref20_Stray.mono _ _ _ _ _ _)
   | (with_reducible exact footwayref20_Where.mono _ _ _ _)
   | (with_reducible exact judge_Hears.mono _ _ _ _ _ _)
   | (with_reducible exact LeO.refl _)
   | (with_reducible exact LeO.none _)
   | (with_reducible refine LeO.ite ?_ ?_)
   | (with_reducible refine LeO.bind ?_ (fun _ => ?_))
   | exact ih0 _ _ _ _ _ _ _ _ _ _ _ _ _ _ _
   | exact ih1 _ _ _ _ _ _ _ _ _ _
   | exact ih2 _ _ _ _ _ _ _ _ _ _ _
   | exact ih3 _ _ _ _ _ _ _
   | exact ih4 _ _ _ _ _ _ _ _
   | exact ih5 _ _ _ _ _ _ _ _ _ _ _ _ _ _ _
   | exact footwaylaw20_cut.mono _ _ _ _
   | exact footwaylaw20_rows.mono _ _
   | exact footwayref06_Same.mono _ _ _
   | exact footwayref15_Right.mono _ _ _ _
   | exact footwayref17_May.mono _ _ _ _ _
   | exact footwayref20_Hears.mono _ _ _ _ _ _
   | exact footwayref20_Stray.mono _ _ _ _ _ _
   | exact footwayref20_Where.mono _ _ _ _
   | exact judge_Hears.mono _ _ _ _ _ _
   | exact LeO.none _
   | refine LeO.ite ?_ ?_
   | refine LeO.bind ?_ (fun _ => ?_)
  ·intro y0 y1 y2 y3 y4 y5 y6 y7 y8 y9 y10
   unfold footwaylaw20_JudgeTells.j3
   repeat' first
   | (with_reducible exact ih0 _ _ _ _ _ _ _ _ _ _ _ _ _ _ _)
   | (with_reducible exact ih1 _ _ _ _ _ _ _ _ _ _)
   | (with_reducible exact ih2 _ _ _ _ _ _ _ _ _ _ _)
   | (with_reducible exact ih3 _ _ _ _ _ _ _)
   | (with_reducible exact ih4 _ _ _ _ _ _ _ _)
   | (with_reducible exact ih5 _ _ _ _ _ _ _ _ _ _ _ _ _ _ _)
   | (with_reducible exact footwaylaw20_cut.mono _ _ _ _)
   | (with_reducible exact footwaylaw20_rows.mono _ _)
   | (with_reducible exact footwayref06_Same.mono _ _ _)
   | (with_reducible exact footwayref15_Right.mono _ _ _ _)
   | (with_reducible exact footwayref17_May.mono _ _ _ _ _)
   | (with_reducible exact footwayref20_Hears.mono _ _ _ _ _ _)
   | (with_reducible exact footwayref20_Stray.mono _ _ _ _ _ _)
   | (with_reducible exact footwayref20_Where.mono _ _ _ _)
   | (with_reducible exact judge_Hears.mono _ _ _ _ _ _)
   | (with_reducible exact LeO.refl _)
   | (with_reducible exact LeO.none _)
   | (with_reducible refine LeO.ite ?_ ?_)
   | (with_reducible refine LeO.bind ?_ (fun _ => ?_))
   | exact ih0 _ _ _ _ _ _ _ _ _ _ _ _ _ _ _
   | exact ih1 _ _ _ _ _ _ _ _ _ _
   | exact ih2 _ _ _ _ _ _ _ _ _ _ _
   | exact ih3 _ _ _ _ _ _ _
   | exact ih4 _ _ _ _ _ _ _ _
   | exact ih5 _ _ _ _ _ _ _ _ _ _ _ _ _ _ _
   | exact footwaylaw20_cut.mono _ _ _ _
   | exact footwaylaw20_rows.mono _ _
   | exact footwayref06_Same.mono _ _ _
   | exact footwayref15_Right.mono _ _ _ _
   | exact footwayref17_May.mono _ _ _ _ _
   | exact footwayref20_Hears.mono _ _ _ _ _ _
   | exact footwayref20_Stray.mono _ _ _ _ _ _
   | exact footwayref20_Where.mono _ _ _ _
   | exact judge_Hears.mono _ _ _ _ _ _
   | exact LeO.none _
   | refine LeO.ite ?_ ?_
   | refine LeO.bind ?_ (fun _ => ?_)
  ·intro y0 y1 y2 y3 y4 y5 y6
   unfold footwaylaw20_JudgeTells.j4
   repeat' first
   | (with_reducible exact ih0 _ _ _ _ _ _ _ _ _ _ _ _ _ _ _)
   | (with_reducible exact ih1 _ _ _ _ _ _ _ _ _ _)
   | (with_reducible exact ih2 _ _ _ _ _ _ _ _ _ _ _)
   | (with_reducible exact ih3 _ _ _ _ _ _ _)
   | (with_reducible exact ih4 _ _ _ _ _ _ _ _)
   | (with_reducible exact ih5 _ _ _ _ _ _ _ _ _ _ _ _ _ _ _)
   | (with_reducible exact footwaylaw20_cut.mono _ _ _ _)
   | (with_reducible exact footwaylaw20_rows.mono _ _)
   | (with_reducible exact footwayref06_Same.mono _ _ _)
   | (with_reducible exact footwayref15_Right.mono _ _ _ _)
   | (with_reducible exact footwayref17_May.mono _ _ _ _ _)
   | (with_reducible exact footwayref20_Hears.mono _ _ _ _ _ _)
   | (with_reducible exact footwayref20_Stray.mono _ _ _ _ _ _)
   | (with_reducible exact footwayref20_Where.mono _ _ _ _)
   | (with_reducible exact judge_Hears.mono _ _ _ _ _ _)
   | (with_reducible exact LeO.refl _)
   | (with_reducible exact LeO.none _)
   | (with_reducible refine LeO.ite ?_ ?_)
   | (with_reducible refine LeO.bind ?_ (fun _ => ?_))
   | exact ih0 _ _ _ _ _ _ _ _ _ _ _ _ _ _ _
   | exact ih1 _ _ _ _ _ _ _ _ _ _
   | exact ih2 _ _ _ _ _ _ _ _ _ _ _
   | exact ih3 _ _ _ _ _ _ _
   | exact ih4 _ _ _ _ _ _ _ _
   | exact ih5 _ _ _ _ _ _ _ _ _ _ _ _ _ _ _
   | exact footwaylaw20_cut.mono _ _ _ _
   | exact footwaylaw20_rows.mono _ _
   | exact footwayref06_Same.mono _ _ _
   | exact footwayref15_Right.mono _ _ _ _
   | exact footwayref17_May.mono _ _ _ _ _
   | exact footwayref20_Hears.mono _ _ _ _ _ _
   | exact footwayref20_Stray.mono _ _ _ _ _ _
   | exact footwayref20_Where.mono _ _ _ _
   | exact judge_Hears.mono _ _ _ _ _ _
   | exact LeO.none _
   | refine LeO.ite ?_ ?_
   | refine LeO.bind ?_ (fun _ => ?_)
  ·intro y0 y1 y2 y3 y4 y5 y6 y7
   unfold footwaylaw20_JudgeTells.j5
   repeat' first
   | (with_reducible exact ih0 _ _ _ _ _ _ _ _ _ _ _ _ _ _ _)
   | (with_reducible exact ih1 _ _ _ _ _ _ _ _ _ _)
   | (with_reducible exact ih2 _ _ _ _ _ _ _ _ _ _ _)
   | (with_reducible exact ih3 _ _ _ _ _ _ _)
   | (with_reducible exact ih4 _ _ _ _ _ _ _ _)
   | (with_reducible exact ih5 _ _ _ _ _ _ _ _ _ _ _ _ _ _ _)
   | (with_reducible exact footwaylaw20_cut.mono _ _ _ _)
   | (with_reducible exact footwaylaw20_rows.mono _ _)
   | (with_reducible exact footwayref06_Same.mono _ _ _)
   | (with_reducible exact footwayref15_Right.mono _ _ _ _)
   | (with_reducible exact footwayref17_May.mono _ _ _ _ _)
   | (with_reducible exact footwayref20_Hears.mono _ _ _ _ _ _)
   | (with_reducible exact footwayref20_Stray.mono _ _ _ _ _ _)
   | (with_reducible exact footwayref20_Where.mono _ _ _ _)
   | (with_reducible exact judge_Hears.mono _ _ _ _ _ _)
   | (with_reducible exact LeO.refl _)
   | (with_reducible exact LeO.none _)
   | (with_reducible refine LeO.ite ?_ ?_)
   | (with_reducible refine LeO.bind ?_ (fun _ => ?_))
   | exact ih0 _ _ _ _ _ _ _ _ _ _ _ _ _ _ _
   | exact ih1 _ _ _ _ _ _ _ _ _ _
   | exact ih2 _ _ _ _ _ _ _ _ _ _ _
   | exact ih3 _ _ _ _ _ _ _
   | exact ih4 _ _ _ _ _ _ _ _
   | exact ih5 _ _ _ _ _ _ _ _ _ _ _ _ _ _ _
   | exact footwaylaw20_cut.mono _ _ _ _
   | exact footwaylaw20_rows.mono _ _
   | exact footwayref06_Same.mono _ _ _
   | exact footwayref15_Right.mono _ _ _ _
   | exact footwayref17_May.mono _ _ _ _ _
   | exact footwayref20_Hears.mono _ _ _ _ _ _
   | exact footwayref20_Stray.mono _ _ _ _ _ _
   | exact footwayref20_Where.mono _ _ _ _
   | exact judge_Hears.mono _ _ _ _ _ _
   | exact LeO.none _
   | refine LeO.ite ?_ ?_
   | refine LeO.bind ?_ (fun _ => ?_)
  ·intro y0 y1 y2 y3 y4 y5 y6 y7 y8 y9 y10 y11 y12 y13 y14
   unfold footwaylaw20_JudgeTells.j1
   repeat' first
   | (with_reducible exact ih0 _ _ _ _ _ _ _ _ _ _ _ _ _ _ _)
   | (with_reducible exact ih1 _ _ _ _ _ _ _ _ _ _)
   | (with_reducible exact ih2 _ _ _ _ _ _ _ _ _ _ _)
   | (with_reducible exact ih3 _ _ _ _ _ _ _)
   | (with_reducible exact ih4 _ _ _ _ _ _ _ _)
   | (with_reducible exact ih5 _ _ _ _ _ _ _ _ _ _ _ _ _ _ _)
   | (with_reducible exact footwaylaw20_cut.mono _ _ _ _)
   | (with_reducible exact footwaylaw20_rows.mono _ _)
   | (with_reducible exact footwayref06_Same.mono _ _ _)
   | (with_reducible exact footwayref15_Right.mono _ _ _ _)
   | (with_reducible exact footwayref17_May.mono _ _ _ _ _)
   | (with_reducible exact footwayref20_Hears.mono _ _ _ _ _ _)
   | (with_reducible exact footwayref20_Stray.mono _ _ _ _ _ _)
   | (with_reducible exact footwayref20_Where.mono _ _ _ _)
   | (with_reducible exact judge_Hears.mono _ _ _ _ _ _)
   | (with_reducible exact LeO.refl _)
   | (with_reducible exact LeO.none _)
   | (with_reducible refine LeO.ite ?_ ?_)
   | (with_reducible refine LeO.bind ?_ (fun _ => ?_))
   | exact ih0 _ _ _ _ _ _ _ _ _ _ _ _ _ _ _
   | exact ih1 _ _ _ _ _ _ _ _ _ _
   | exact ih2 _ _ _ _ _ _ _ _ _ _ _
   | exact ih3 _ _ _ _ _ _ _
   | exact ih4 _ _ _ _ _ _ _ _
   | exact ih5 _ _ _ _ _ _ _ _ _ _ _ _ _ _ _
   | exact footwaylaw20_cut.mono _ _ _ _
   | exact footwaylaw20_rows.mono _ _
   | exact footwayref06_Same.mono _ _ _
   | exact footwayref15_Right.mono _ _ _ _
   | exact footwayref17_May.mono _ _ _ _ _
   | exact footwayref20_Hears.mono _ _ _ _ _ _
   | exact footwayref20_Stray.mono _ _ _ _ _ _
   | exact footwayref20_Where.mono _ _ _ _
   | exact judge_Hears.mono _ _ _ _ _ _
   | exact LeO.none _
   | refine LeO.ite ?_ ?_
   | refine LeO.bind ?_ (fun _ => ?_)
theorem footwaylaw20_JudgeTells.mono : ∀ a0 a1 a2 a3 a4 a5 a6 a7 k, LeO (footwaylaw20_JudgeTells.f k a0 a1 a2 a3 a4 a5 a6 a7) (footwaylaw20_JudgeTells.f (k + 1) a0 a1 a2 a3 a4 a5 a6 a7) := by
 intro a0 a1 a2 a3 a4 a5 a6 a7 k
 obtain ⟨ih0, ih1, ih2, ih3, ih4, ih5⟩ := footwaylaw20_JudgeTells.mono_l k
 unfold footwaylaw20_JudgeTells.f
 repeat' first
   | (with_reducible exact ih0 _ _ _ _ _ _ _ _ _ _ _ _ _ _ _)
   | (with_reducible exact ih1 _ _ _ _ _ _ _ _ _ _)
   | (with_reducible exact ih2 _ _ _ _ _ _ _ _ _ _ _)
   | (with_reducible exact ih3 _ _ _ _ _ _ _)
   | (with_reducible exact ih4 _ _ _ _ _ _ _ _)
   | (with_reducible exact ih5 _ _ _ _ _ _ _ _ _ _ _ _ _ _ _)
   | (with_reducible exact footwaylaw20_cut.mono _ _ _ _)
   | (with_reducible exact footwaylaw20_rows.mono _ _)
   | (with_reducible exact footwayref06_Same.mono _ _ _)
   | (with_reducible exact footwayref15_Right.mono _ _ _ _)
   | (with_reducible exact footwayref17_May.mono _ _ _ _ _)
   | (with_reducible exact footwayref20_Hears.mono _ _ _ _ _ _)
   | (with_reducible exact footwayref20_Stray.mono _ _ _ _ _ _)
   | (with_reducible exact footwayref20_Where.mono _ _ _ _)
   | (with_reducible exact judge_Hears.mono _ _ _ _ _ _)
   | (with_reducible exact LeO.refl _)
   | (with_reducible exact LeO.none _)
   | (with_reducible refine LeO.ite ?_ ?_)
   | (with_reducible refine LeO.bind ?_ (fun _ => ?_))
   | exact ih0 _ _ _ _ _ _ _ _ _ _ _ _ _ _ _
   | exact ih1 _ _ _ _ _ _ _ _ _ _
   | exact ih2 _ _ _ _ _ _ _ _ _ _ _
   | exact ih3 _ _ _ _ _ _ _
   | exact ih4 _ _ _ _ _ _ _ _
   | exact ih5 _ _ _ _ _ _ _ _ _ _ _ _ _ _ _
   | exact footwaylaw20_cut.mono _ _ _ _
   | exact footwaylaw20_rows.mono _ _
   | exact footwayref06_Same.mono _ _ _
   | exact footwayref15_Right.mono _ _ _ _
   | exact footwayref17_May.mono _ _ _ _ _
   | exact footwayref20_Hears.mono _ _ _ _ _ _
   | exact footwayref20_Stray.mono _ _ _ _ _ _
   | exact footwayref20_Where.mono _ _ _ _
   | exact judge_Hears.mono _ _ _ _ _ _
   | exact LeO.none _
   | refine LeO.ite ?_ ?_
   | refine LeO.bind ?_ (fun _ => ?_)
def footwaylaw20_JudgeTells.T1 : Bool × List (List Nat × List Nat) := (true, [([], []), ([0], [0]), ([], []), ([2, 1], [2]), ([], []), ([4, 3], [4]), ([], []), ([], []), ([7], [7]), ([8], [8]), ([6, 9], [6, 9]), ([1, 5, 0, 1], [1]), ([3, 11, 0, 1, 2, 3, 11], [2, 3]), ([5, 12, 0, 1, 2, 3, 4, 5, 11, 12], [4, 5]), ([10, 13, 0, 1, 2, 3, 4, 5, 6, 7, 8, 9, 10, 11, 12, 13], [6, 7, 10])])
def footwaylaw20_JudgeTells.B1 : List Nat := [0, 1, 0, 7, 0, 31, 0, 0, 128, 384, 960, 63, 2111, 6207, 16383]
theorem footwaylaw20_JudgeTells.tab1 : rtab .any (opsOf Try.f3 1) = footwaylaw20_JudgeTells.T1 := by kernel_rfl
theorem footwaylaw20_JudgeTells.bits1 : waitsOk footwaylaw20_JudgeTells.T1.2 footwaylaw20_JudgeTells.B1 = true := by kernel_rfl
set_option maxHeartbeats 8000000 in
set_option maxRecDepth 100000 in
theorem footwaylaw20_JudgeTells.calls (k : Nat) (a0_0 : Int) (A0_1 : Option Addr) (c0_1 : Nat) (l0_1 : List (S64)) (A0_2 : Option Addr) (c0_2 : Nat) (l0_2 : List (S91)) (A1 : Option Addr) (c1 : Nat) (l1 : List (List Bool)) (A2 : Option Addr) (c2 : Nat) (l2 : List (S80)) (a3 : ByteArray) (a4 : Int) (a5 : Int) (r : Bool) (w : World) (hr0_1 : Kd.C k64 w A0_1 l0_1.length l0_1) (hc0_1 : l0_1.length ≤ c0_1) (hr0_2 : Kd.C k91 w A0_2 l0_2.length l0_2) (hc0_2 : l0_2.length ≤ c0_2) (hr1 : Kd.C (Kd.slice 4 Kd.bool) w A1 l1.length l1) (hc1 : l1.length ≤ c1) (hr2 : Kd.C k80 w A2 l2.length l2) (hc2 : l2.length ≤ c2) (h : footwaylaw20_JudgeTells.f k a0_0 l0_1 l0_2 l1 l2 a3 a4 a5 = some r) :
  Calls Try.prog 3 #[.agg #[.int .i64 a0_0, .slice A0_1 l0_1.length c0_1, .slice A0_2 l0_2.length c0_2], .slice A1 l1.length c1, .slice A2 l2.length c2, .string a3, .int .i64 a4, .int .i64 a5] w fun e w' => e = .returned (.bool r) ∧ Below w.heap.size w w' := by
 have hu25 := Try.underlying25
 have HR0_1 := Aside0.mk hr0_1
 have HC0_1 := Aside0.mk hc0_1
 clear hr0_1 hc0_1
 have HR0_2 := Aside0.mk hr0_2
 have HC0_2 := Aside0.mk hc0_2
 clear hr0_2 hc0_2
 have HR1 := Aside0.mk hr1
 have HC1 := Aside0.mk hc1
 clear hr1 hc1
 have HR2 := Aside0.mk hr2
 have HC2 := Aside0.mk hc2
 clear hr2 hc2
 have HB := Aside0.mk (Below.refl w.heap.size w)
 have H : ((footwaylaw20_cut.f k a0_0 l0_1 l0_2).bind fun bt235 => ((footwaylaw20_rows.f k l1).bind fun t242 => ((footwaylaw20_few.f l2).bind fun t245 => (if 0 ≤ (mn (a3.size : Int) 130) then (if (mn (a3.size : Int) 130) ≤ (a3.size : Int) then ((judge_Where.f t245 (a3.extract 0 ((mn (a3.size : Int) 130) : Int).toNat) a4).bind fun bt248 => ((judge_Stray.f bt235.1 bt235.2.1 bt235.2.2 t242 t245).bind fun bt252 => ((judge_Hears.f k bt235.1 bt235.2.1 bt235.2.2 t245 a5).bind fun bt254 => ((judge_Twice.f t245).bind fun t258 => ((footwayref20_Twice.f t245).bind fun t259 => (if t258 = t259 then ((footwaylaw20_alive.f).bind fun t260 => (footwaylaw20_JudgeTells.j0 k t242 t245 (a3.extract 0 ((mn (a3.size : Int) 130) : Int).toNat) a4 a5 bt248.1 bt248.2 bt252.1 bt252.2 bt254.1 bt254.2 (!t260) bt235.1 bt235.2.1 bt235.2.2)) else (footwaylaw20_JudgeTells.j0 k t242 t245 (a3.extract 0 ((mn (a3.size : Int) 130) : Int).toNat) a4 a5 bt248.1 bt248.2 bt252.1 bt252.2 bt254.1 bt254.2 true bt235.1 bt235.2.1 bt235.2.2))))))) else (none)) else (none))))) = some r := h
 clear h
 replace H := Option.bind_eq_some_iff.mp H
 obtain ⟨⟨t235, t236, t239⟩, A70, H⟩ := H
 replace H : ((footwaylaw20_rows.f k l1).bind fun t242 => ((footwaylaw20_few.f l2).bind fun t245 => (if 0 ≤ (mn (a3.size : Int) 130) then (if (mn (a3.size : Int) 130) ≤ (a3.size : Int) then ((judge_Where.f t245 (a3.extract 0 ((mn (a3.size : Int) 130) : Int).toNat) a4).bind fun bt248 => ((judge_Stray.f t235 t236 t239 t242 t245).bind fun bt252 => ((judge_Hears.f k t235 t236 t239 t245 a5).bind fun bt254 => ((judge_Twice.f t245).bind fun t258 => ((footwayref20_Twice.f t245).bind fun t259 => (if t258 = t259 then ((footwaylaw20_alive.f).bind fun t260 => (footwaylaw20_JudgeTells.j0 k t242 t245 (a3.extract 0 ((mn (a3.size : Int) 130) : Int).toNat) a4 a5 bt248.1 bt248.2 bt252.1 bt252.2 bt254.1 bt254.2 (!t260) t235 t236 t239)) else (footwaylaw20_JudgeTells.j0 k t242 t245 (a3.extract 0 ((mn (a3.size : Int) 130) : Int).toNat) a4 a5 bt248.1 bt248.2 bt252.1 bt252.2 bt254.1 bt254.2 true t235 t236 t239))))))) else (none)) else (none)))) = some r := H
 have A7 := Aside0.mk A70
 clear A70
 replace H := Option.bind_eq_some_iff.mp H
 obtain ⟨t242, A80, H⟩ := H
 replace H : ((footwaylaw20_few.f l2).bind fun t245 => (if 0 ≤ (mn (a3.size : Int) 130) then (if (mn (a3.size : Int) 130) ≤ (a3.size : Int) then ((judge_Where.f t245 (a3.extract 0 ((mn (a3.size : Int) 130) : Int).toNat) a4).bind fun bt248 => ((judge_Stray.f t235 t236 t239 t242 t245).bind fun bt252 => ((judge_Hears.f k t235 t236 t239 t245 a5).bind fun bt254 => ((judge_Twice.f t245).bind fun t258 => ((footwayref20_Twice.f t245).bind fun t259 => (if t258 = t259 then ((footwaylaw20_alive.f).bind fun t260 => (footwaylaw20_JudgeTells.j0 k t242 t245 (a3.extract 0 ((mn (a3.size : Int) 130) : Int).toNat) a4 a5 bt248.1 bt248.2 bt252.1 bt252.2 bt254.1 bt254.2 (!t260) t235 t236 t239)) else (footwaylaw20_JudgeTells.j0 k t242 t245 (a3.extract 0 ((mn (a3.size : Int) 130) : Int).toNat) a4 a5 bt248.1 bt248.2 bt252.1 bt252.2 bt254.1 bt254.2 true t235 t236 t239))))))) else (none)) else (none))) = some r := H
 have A8 := Aside0.mk A80
 clear A80
 replace H := Option.bind_eq_some_iff.mp H
 obtain ⟨t245, A90, H⟩ := H
 replace H : (if 0 ≤ (mn (a3.size : Int) 130) then (if (mn (a3.size : Int) 130) ≤ (a3.size : Int) then ((judge_Where.f t245 (a3.extract 0 ((mn (a3.size : Int) 130) : Int).toNat) a4).bind fun bt248 => ((judge_Stray.f t235 t236 t239 t242 t245).bind fun bt252 => ((judge_Hears.f k t235 t236 t239 t245 a5).bind fun bt254 => ((judge_Twice.f t245).bind fun t258 => ((footwayref20_Twice.f t245).bind fun t259 => (if t258 = t259 then ((footwaylaw20_alive.f).bind fun t260 => (footwaylaw20_JudgeTells.j0 k t242 t245 (a3.extract 0 ((mn (a3.size : Int) 130) : Int).toNat) a4 a5 bt248.1 bt248.2 bt252.1 bt252.2 bt254.1 bt254.2 (!t260) t235 t236 t239)) else (footwaylaw20_JudgeTells.j0 k t242 t245 (a3.extract 0 ((mn (a3.size : Int) 130) : Int).toNat) a4 a5 bt248.1 bt248.2 bt252.1 bt252.2 bt254.1 bt254.2 true t235 t236 t239))))))) else (none)) else (none)) = some r := H
 have A9 := Aside0.mk A90
 clear A90
 obtain ⟨ji10, hji10⟩ : ∃ j_ : Int, (mn (a3.size : Int) 130) = j_ := ⟨_, rfl⟩
 replace H : (if 0 ≤ (ji10) then (if (ji10) ≤ (a3.size : Int) then ((judge_Where.f t245 (a3.extract 0 ((ji10) : Int).toNat) a4).bind fun bt248 => ((judge_Stray.f t235 t236 t239 t242 t245).bind fun bt252 => ((judge_Hears.f k t235 t236 t239 t245 a5).bind fun bt254 => ((judge_Twice.f t245).bind fun t258 => ((footwayref20_Twice.f t245).bind fun t259 => (if t258 = t259 then ((footwaylaw20_alive.f).bind fun t260 => (footwaylaw20_JudgeTells.j0 k t242 t245 (a3.extract 0 ((ji10) : Int).toNat) a4 a5 bt248.1 bt248.2 bt252.1 bt252.2 bt254.1 bt254.2 (!t260) t235 t236 t239)) else (footwaylaw20_JudgeTells.j0 k t242 t245 (a3.extract 0 ((ji10) : Int).toNat) a4 a5 bt248.1 bt248.2 bt252.1 bt252.2 bt254.1 bt254.2 true t235 t236 t239))))))) else (none)) else (none)) = some r := by first | (rw [hji10] at H; exact H) | (simp only [hji10] at H ⊢; exact H)
 (try rw [hji10] at A7)
 (try rw [hji10] at A8)
 (try rw [hji10] at A9)
 (try (have hji10h : ji10 ≤ 130 := by (rw [← hji10]; unfold mn; (repeat' split) <;> omega)))
 (try (have hji10g : ji10 ≤ 64 := by omega))
 (try (have hji10l : 0 ≤ ji10 := by (rw [← hji10]; unfold mn; (repeat' split) <;> omega)))
 (try (have hji10m : 0 ≤ ji10 := by omega))
 have hji10_ : (if 130 < (a3.size : Int) then 130 else (a3.size : Int)) = ji10 := hji10
 by_cases c11 : 0 ≤ (ji10)
 ·rw [if_pos c11] at H
  have c11b0 := eq_true c11
  have c11b1 : decide (0 ≤ (ji10)) = true := decide_eq_true c11
  clear c11
  by_cases c12 : (ji10) ≤ (a3.size : Int)
  ·rw [if_pos c12] at H
   have c12b0 := eq_true c12
   have c12b1 : decide ((ji10) ≤ (a3.size : Int)) = true := decide_eq_true c12
   clear c12
   replace H := Option.bind_eq_some_iff.mp H
   obtain ⟨⟨t248, t249⟩, A130, H⟩ := H
   replace H : ((judge_Stray.f t235 t236 t239 t242 t245).bind fun bt252 => ((judge_Hears.f k t235 t236 t239 t245 a5).bind fun bt254 => ((judge_Twice.f t245).bind fun t258 => ((footwayref20_Twice.f t245).bind fun t259 => (if t258 = t259 then ((footwaylaw20_alive.f).bind fun t260 => (footwaylaw20_JudgeTells.j0 k t242 t245 (a3.extract 0 ((ji10) : Int).toNat) a4 a5 t248 t249 bt252.1 bt252.2 bt254.1 bt254.2 (!t260) t235 t236 t239)) else (footwaylaw20_JudgeTells.j0 k t242 t245 (a3.extract 0 ((ji10) : Int).toNat) a4 a5 t248 t249 bt252.1 bt252.2 bt254.1 bt254.2 true t235 t236 t239)))))) = some r := H
   have A13 := Aside0.mk A130
   clear A130
   replace H := Option.bind_eq_some_iff.mp H
   obtain ⟨⟨t252, t253⟩, A140, H⟩ := H
   replace H : ((judge_Hears.f k t235 t236 t239 t245 a5).bind fun bt254 => ((judge_Twice.f t245).bind fun t258 => ((footwayref20_Twice.f t245).bind fun t259 => (if t258 = t259 then ((footwaylaw20_alive.f).bind fun t260 => (footwaylaw20_JudgeTells.j0 k t242 t245 (a3.extract 0 ((ji10) : Int).toNat) a4 a5 t248 t249 t252 t253 bt254.1 bt254.2 (!t260) t235 t236 t239)) else (footwaylaw20_JudgeTells.j0 k t242 t245 (a3.extract 0 ((ji10) : Int).toNat) a4 a5 t248 t249 t252 t253 bt254.1 bt254.2 true t235 t236 t239))))) = some r := H
   have A14 := Aside0.mk A140
   clear A140
   replace H := Option.bind_eq_some_iff.mp H
   obtain ⟨⟨t254, t257⟩, A150, H⟩ := H
   replace H : ((judge_Twice.f t245).bind fun t258 => ((footwayref20_Twice.f t245).bind fun t259 => (if t258 = t259 then ((footwaylaw20_alive.f).bind fun t260 => (footwaylaw20_JudgeTells.j0 k t242 t245 (a3.extract 0 ((ji10) : Int).toNat) a4 a5 t248 t249 t252 t253 t254 t257 (!t260) t235 t236 t239)) else (footwaylaw20_JudgeTells.j0 k t242 t245 (a3.extract 0 ((ji10) : Int).toNat) a4 a5 t248 t249 t252 t253 t254 t257 true t235 t236 t239)))) = some r := H
   have A15 := Aside0.mk A150
   clear A150
   have HC16 := Aside0.mk H
   clear H
   go_enter Try.func3, Try.ntmps3
   try go_wp2_with (first | ((with_reducible refine gate_dst (N := 6) rfl ?_); (try (refine gate_guard (by rfl) ?_; dsimp only)); refine box_event ?hg (N := 6) ?hd (cs := #[.int .i64 a0_0, .slice A0_1 l0_1.length c0_1, .slice A0_2 l0_2.length c0_2]) (t := 25) ?hr ?_; (case hd => rfl); (case hg => rfl); (case hr => first | (go_simp; done) | (go_simp; rfl)); intro gb234 hg w17 hbox hb; have n0_ := Aside0.mk (below_step (by repeat (first | (with_reducible first | exact HB.out | apply below_alloc | apply pw_below_drewN | apply below_drew1) | exact HB.out)) hb); have n1_ := Aside0.mk (hbox); have n2_ := Aside0.mk ((by rw [hg]; exact (below_size (by repeat (first | (with_reducible first | exact HB.out | apply below_alloc | apply pw_below_drewN | apply below_drew1) | exact HB.out))) : w.heap.size ≤ gb234)); have n3_ := Aside0.mk ((by rw [hg]; exact (below_size (by repeat (first | (with_reducible first | exact HB.out | apply below_alloc | apply pw_below_drewN | apply below_drew1) | exact HB.out))) : w.heap.size ≤ gb234)); clear HB; have HB := n0_; have BK234 := n1_; have GW234 := n2_; have GE234 := n3_; clear n0_ n1_ n2_ n3_; clear hb hbox hg))
   have n0_ := Aside0.mk (blk_drew BK234.out)
   have n1_ := Aside0.mk (below_drew1 HB.out)
   clear BK234
   clear HB
   have BK234 := n0_
   have HB := n1_
   clear n0_ n1_
   refine start_ (n := 15) (S := fun w' => w'.cell? ⟨gb234, 0, none⟩ = some (.int .i64 a0_0) ∧ w'.cell? ⟨gb234, 1, none⟩ = some (.slice A0_1 l0_1.length c0_1) ∧ w'.cell? ⟨gb234, 2, none⟩ = some (.slice A0_2 l0_2.length c0_2)) (ds := [11]) #[false, false, false, false, false, false, false, false, false, false, false, false, false, false, false] (by kernel_rfl) rfl rfl ⟨(blk_cell BK234.out 0).trans rfl, (blk_cell BK234.out 1).trans rfl, (blk_cell BK234.out 2).trans rfl⟩ (fun hHeld => ?_); refine with_tabW footwaylaw20_JudgeTells.tab1 footwaylaw20_JudgeTells.bits1 (fun HT_ HW_ => ?_)
   generalize w17.drew = w18 at BK234 HB hHeld ⊢
   refine pure_ (i := 2) (N := some 21) (v := ?_) (a' := ?_) #[false, false, true, false, false, false, false, false, false, false, false, false, false, false, false] rfl rfl (any_of HT_.out (by kernel_rfl)) (fun _ _ _ h => h) (Or.inl ⟨by rfl, ?_⟩) ?_ ?_
   rotate_left
   ·intro w'
    go_simp
    with_reducible rfl
   rotate_left
   ·simp only [Act.put, List.setIfInBounds_toArray, List.set_cons_zero, List.set_cons_succ, i64_w, i32_w]
    rfl
   refine pure_ (i := 4) (N := some 23) (v := ?_) (a' := ?_) #[false, false, true, false, true, false, false, false, false, false, false, false, false, false, false] rfl rfl (any_of HT_.out (by kernel_rfl)) (fun _ _ _ h => h) (Or.inl ⟨by rfl, ?_⟩) ?_ ?_
   rotate_left
   ·intro w'
    go_simp
    with_reducible rfl
   rotate_left
   ·simp only [Act.put, List.setIfInBounds_toArray, List.set_cons_zero, List.set_cons_succ, i64_w, i32_w]
    rfl
   refine pure_ (i := 6) (N := some 25) (v := ?_) (a' := ?_) #[false, false, true, false, true, false, true, false, false, false, false, false, false, false, false] rfl rfl (any_of HT_.out (by kernel_rfl)) (fun _ _ _ h => h) (Or.inl ⟨by rfl, ?_⟩) ?_ ?_
   rotate_left
   ·intro w'
    go_simp
    with_reducible rfl
   rotate_left
   ·simp only [Act.put, List.setIfInBounds_toArray, List.set_cons_zero, List.set_cons_succ, i64_w, i32_w]
    rfl
   refine pure_ (i := 7) (N := some 26) (v := ?_) (a' := ?_) #[false, false, true, false, true, false, true, true, false, false, false, false, false, false, false] rfl rfl (any_of HT_.out (by kernel_rfl)) (fun _ _ _ h => h) (Or.inl ⟨by rfl, ?_⟩) ?_ ?_
   rotate_left
   ·intro w'
    go_simp
    with_reducible rfl
   rotate_left
   ·simp only [Act.put, List.setIfInBounds_toArray, List.set_cons_zero, List.set_cons_succ, i64_w, i32_w]
    rfl
   refine pure_ (i := 8) (N := some 27) (v := ?_) (a' := ?_) #[false, false, true, false, true, false, true, true, true, false, false, false, false, false, false] rfl rfl (any_of HT_.out (by kernel_rfl)) (fun _ _ _ h => h) (Or.inl ⟨by rfl, ?_⟩) ?_ ?_
   rotate_left
   ·intro w'
    go_simp
    with_reducible rfl
   rotate_left
   ·simp only [Act.put, List.setIfInBounds_toArray, List.set_cons_zero, List.set_cons_succ, i64_w, i32_w]
    rfl
   refine pure_ (i := 9) (N := some 28) (v := ?_) (a' := ?_) #[false, false, true, false, true, false, true, true, true, true, false, false, false, false, false] rfl rfl (any_of HT_.out (by kernel_rfl)) (fun _ _ _ h => h) (Or.inl ⟨by rfl, ?_⟩) ?_ ?_
   rotate_left
   ·intro w'
    go_simp
    with_reducible rfl
   rotate_left
   ·simp only [Act.put, List.setIfInBounds_toArray, List.set_cons_zero, List.set_cons_succ, i64_w, i32_w]
    rfl
   refine pure_ (i := 10) (N := some 29) (v := ?_) (a' := ?_) #[false, false, true, false, true, false, true, true, true, true, true, false, false, false, false] rfl rfl (any_of HT_.out (by kernel_rfl)) (fun _ _ _ h => h) (Or.inl ⟨by rfl, ?_⟩) ?_ ?_
   rotate_left
   ·intro w'
    go_simp
    with_reducible rfl
   rotate_left
   ·simp only [Act.put, List.setIfInBounds_toArray, List.set_cons_zero, List.set_cons_succ, i64_w, i32_w]
    rfl
   refine take_ (i := 0) (N := some 19) (v := ?_) (a' := ?_) #[true, false, true, false, true, false, true, true, true, true, true, false, false, false, false] rfl rfl (take_ofW HT_.out HW_.out (by kernel_rfl)) (fun _ _ _ h => h) (Or.inl ⟨by rfl, ?_⟩) hHeld ?_ ?_
   rotate_left
   ·rintro w' ⟨s0, s1, s2⟩
    go_simp
    with_reducible rfl
   rotate_left
   ·simp only [Act.put, List.setIfInBounds_toArray, List.set_cons_zero, List.set_cons_succ, i64_w, i32_w]
    rfl
   refine one_ (i := 1) (N := some 20) #[true, true, true, false, true, false, true, true, true, true, true, false, false, false, false] rfl rfl (one_of HT_.out (by kernel_rfl)) (by decide) (fun K hK => ?_)
   refine goes_ Try.func8 (by kernel_rfl) rfl #[.agg #[.int .i64 a0_0, .slice A0_1 l0_1.length c0_1, .slice A0_2 l0_2.length c0_2]] (by rfl) rfl rfl (by (try simp only [List.map_toArray, List.map_cons, List.map_nil]); first | done | rfl | (simp only [List.length_drop, List.length_take]; rfl)) ?_
   with_reducible refine (footwaylaw20_cut.calls k a0_0 (fun k_ => k_ < w.heap.size) _ _ l0_1 (fun k_ => k_ < w.heap.size) _ _ l0_2 t235 t236 t239 _ ?side1 ?side2 A7.out).mono ?_
   (case side1 => exact Kd.V_mk HC0_1.out (Kd.F_below (Kd.C_F k64_heap HR0_1.out) (by repeat (first | (with_reducible first | exact HB.out | apply below_alloc | apply pw_below_drewN | apply below_drew1 | refine below_set ?_ GE234.out) | exact HB.out))))
   (case side2 => exact Kd.V_mk HC0_2.out (Kd.F_below (Kd.C_F k91_heap HR0_2.out) (by repeat (first | (with_reducible first | exact HB.out | apply below_alloc | apply pw_below_drewN | apply below_drew1 | refine below_set ?_ GE234.out) | exact HB.out))))
   rintro e w19 ⟨v237, v240, rfl, ho0, ho1, hb⟩
   refine ⟨_, rfl, ?_⟩
   have n0_ := Aside0.mk (Kd.N_lower (Kd.N_mono (ok' := fun k_ => k_ ≠ gb234) ho0 (fun k_ hk_ => Or.elim hk_ (fun hs_ => Or.elim hs_ (fun hs_ => fun e_ => Nat.not_le.2 hs_ (by rw [e_]; exact GW234.out)) (fun hs_ => fun e_ => Nat.not_le.2 hs_ (by rw [e_]; exact GW234.out))) (fun hn_ => (Kd.freshB (g := gb234) (o := .cells #[.int .i64 a0_0, .slice A0_1 l0_1.length c0_1, .slice A0_2 l0_2.length c0_2] 25 (0, 0)) (by (with_reducible repeat (first | refine blk_drewN ?_ _ | refine blk_drew ?_ | refine blk_alloc ?_ _)); exact BK234.out) k_ hn_)))) (below_size (by repeat (first | (with_reducible first | exact HB.out | apply below_alloc | apply pw_below_drewN | apply below_drew1 | refine below_set ?_ GE234.out) | exact HB.out))))
   have n1_ := Aside0.mk (Kd.V_lower (Kd.V_mono (ok' := fun k_ => some k_ ≠ (v237 : Value).ownBlock ∧ k_ ≠ gb234) ho1 (fun k_ hk_ => ⟨hk_.2, Or.elim hk_.1 (fun hs_ => Or.elim hs_ (fun hs_ => fun e_ => Nat.not_le.2 hs_ (by rw [e_]; exact GW234.out)) (fun hs_ => fun e_ => Nat.not_le.2 hs_ (by rw [e_]; exact GW234.out))) (fun hn_ => (Kd.freshB (g := gb234) (o := .cells #[.int .i64 a0_0, .slice A0_1 l0_1.length c0_1, .slice A0_2 l0_2.length c0_2] 25 (0, 0)) (by (with_reducible repeat (first | refine blk_drewN ?_ _ | refine blk_drew ?_ | refine blk_alloc ?_ _)); exact BK234.out) k_ hn_))⟩)) (below_size (by repeat (first | (with_reducible first | exact HB.out | apply below_alloc | apply pw_below_drewN | apply below_drew1 | refine below_set ?_ GE234.out) | exact HB.out))))
   have n2_ := Aside0.mk (blk_below (g := gb234) (o := .cells #[.int .i64 a0_0, .slice A0_1 l0_1.length c0_1, .slice A0_2 l0_2.length c0_2] 25 (0, 0)) (by (with_reducible repeat (first | refine blk_drewN ?_ _ | refine blk_drew ?_ | refine blk_alloc ?_ _)); exact BK234.out) hb)
   have n3_ := Aside0.mk (below_step (by repeat (first | (with_reducible first | exact HB.out | apply below_alloc | apply pw_below_drewN | apply below_drew1 | refine below_set ?_ GE234.out) | exact HB.out)) hb)
   clear BK234
   clear HB
   have HO238 := n0_
   have HO241 := n1_
   have BK234 := n2_
   have HB := n3_
   clear n0_ n1_ n2_ n3_
   (try clear hb)
   (try clear hb2)
   (try clear hk)
   (try clear hi)
   (try clear ho0)
   (try clear ho1)
   refine hK.out _ _ ⟨(blk_cell BK234.out 0).trans rfl, (blk_cell BK234.out 1).trans rfl, (blk_cell BK234.out 2).trans rfl⟩ (fun hHeld => ?_)
   clear hK K
   refine norm_ (a' := ?_) ?_ ?_
   rotate_left
   ·show Act.put _ (some 20) _ = _
    simp only [Act.put, List.setIfInBounds_toArray, List.set_cons_zero, List.set_cons_succ, i64_w, i32_w]
    rfl
   refine one_ (i := 3) (N := some 22) #[true, true, true, true, true, false, true, true, true, true, true, false, false, false, false] rfl rfl (one_of HT_.out (by kernel_rfl)) (by decide) (fun K hK => ?_)
   refine goes_ Try.func9 (by kernel_rfl) rfl #[.slice A1 l1.length c1] (by rfl) rfl rfl (by (try simp only [List.map_toArray, List.map_cons, List.map_nil]); first | done | rfl | (simp only [List.length_drop, List.length_take]; rfl)) ?_
   with_reducible refine (footwaylaw20_rows.calls k (fun k_ => k_ < w.heap.size) _ _ l1 t242 _ ?side1 A8.out).mono ?_
   (case side1 => exact Kd.V_mk HC1.out (Kd.F_below (Kd.C_F (Kd.heap_slice 4 Kd.heap_bool) HR1.out) (by repeat (first | (with_reducible first | exact HB.out | apply below_alloc | apply pw_below_drewN | apply below_drew1 | refine below_set ?_ GE234.out) | exact HB.out))))
   rintro e w20 ⟨v243, rfl, ho0, hb⟩
   refine ⟨_, rfl, ?_⟩
   have n0_ := Aside0.mk (Kd.N_elder' (by (with_reducible repeat (first | apply Kd.N_alloc | apply Kd.N_drewN | apply Kd.N_drew)); exact HO238.out) (Kd.N_base ho0) hb)
   have n1_ := Aside0.mk (Kd.V_elder' (by (with_reducible repeat (first | apply Kd.V_alloc | apply Kd.V_drewN | apply Kd.V_drew)); exact HO241.out) (Kd.N_base ho0) hb)
   have n2_ := Aside0.mk (Kd.N_lower (Kd.N_mono (ok' := fun k_ => some k_ ≠ (v237 : Value).ownBlock ∧ k_ ≠ gb234) ho0 (fun k_ hk_ => ⟨Or.elim hk_ (fun hs_ => fun e_ => Nat.not_le.2 hs_ (Kd.N_base HO238.out k_ e_.symm)) (fun hn_ => (Kd.fresh' (Kd.N_lt (by (with_reducible repeat (first | apply Kd.N_alloc | apply Kd.N_drewN | apply Kd.N_drew)); exact HO238.out)) k_ hn_)), Or.elim hk_ (fun hs_ => fun e_ => Nat.not_le.2 hs_ (by rw [e_]; exact GW234.out)) (fun hn_ => (Kd.freshB (g := gb234) (o := .cells #[.int .i64 a0_0, .slice A0_1 l0_1.length c0_1, .slice A0_2 l0_2.length c0_2] 25 (0, 0)) (by (with_reducible repeat (first | refine blk_drewN ?_ _ | refine blk_drew ?_ | refine blk_alloc ?_ _)); exact BK234.out) k_ hn_))⟩)) (below_size (by repeat (first | (with_reducible first | exact HB.out | apply below_alloc | apply pw_below_drewN | apply below_drew1 | refine below_set ?_ GE234.out) | exact HB.out))))
   have n3_ := Aside0.mk (blk_below (g := gb234) (o := .cells #[.int .i64 a0_0, .slice A0_1 l0_1.length c0_1, .slice A0_2 l0_2.length c0_2] 25 (0, 0)) (by (with_reducible repeat (first | refine blk_drewN ?_ _ | refine blk_drew ?_ | refine blk_alloc ?_ _)); exact BK234.out) hb)
   have n4_ := Aside0.mk (below_step (by repeat (first | (with_reducible first | exact HB.out | apply below_alloc | apply pw_below_drewN | apply below_drew1 | refine below_set ?_ GE234.out) | exact HB.out)) hb)
   clear HO238
   clear HO241
   clear BK234
   clear HB
   have HO238 := n0_
   have HO241 := n1_
   have HO244 := n2_
   have BK234 := n3_
   have HB := n4_
   clear n0_ n1_ n2_ n3_ n4_
   (try clear hb)
   (try clear hb2)
   (try clear hk)
   (try clear hi)
   (try clear ho0)
   refine hK.out _ _ ⟨(blk_cell BK234.out 0).trans rfl, (blk_cell BK234.out 1).trans rfl, (blk_cell BK234.out 2).trans rfl⟩ (fun hHeld => ?_)
   clear hK K
   refine norm_ (a' := ?_) ?_ ?_
   rotate_left
   ·show Act.put _ (some 22) _ = _
    simp only [Act.put, List.setIfInBounds_toArray, List.set_cons_zero, List.set_cons_succ, i64_w, i32_w]
    rfl
   refine one_ (i := 5) (N := some 24) #[true, true, true, true, true, true, true, true, true, true, true, false, false, false, false] rfl rfl (one_of HT_.out (by kernel_rfl)) (by decide) (fun K hK => ?_)
   refine goes_ Try.func10 (by kernel_rfl) rfl #[.slice A2 l2.length c2] (by rfl) rfl rfl (by (try simp only [List.map_toArray, List.map_cons, List.map_nil]); first | done | rfl | (simp only [List.length_drop, List.length_take]; rfl)) ?_
   with_reducible refine (footwaylaw20_few.calls _ _ l2 t245 _ ?side1 ?side2 A9.out).mono ?_
   (case side1 => repeat (first | exact (Kd.C_below HR2.out HB.out) | (with_reducible refine Kd.C_alloc ?_ _) | (with_reducible refine Kd.C_drewN ?_ _) | (with_reducible refine Kd.C_drew ?_)))
   (case side2 => exact HC2.out)
   rintro e w21 ⟨v246, rfl, ho0, hb⟩
   refine ⟨_, rfl, ?_⟩
   have n0_ := Aside0.mk (Kd.N_elder' (by (with_reducible repeat (first | apply Kd.N_alloc | apply Kd.N_drewN | apply Kd.N_drew)); exact HO238.out) (Kd.R_base ho0) hb)
   have n1_ := Aside0.mk (Kd.V_elder' (by (with_reducible repeat (first | apply Kd.V_alloc | apply Kd.V_drewN | apply Kd.V_drew)); exact HO241.out) (Kd.R_base ho0) hb)
   have n2_ := Aside0.mk (Kd.N_elder' (by (with_reducible repeat (first | apply Kd.N_alloc | apply Kd.N_drewN | apply Kd.N_drew)); exact HO244.out) (Kd.R_base ho0) hb)
   have n3_ := Aside0.mk (Kd.R_lower ho0 (below_size (by repeat (first | (with_reducible first | exact HB.out | apply below_alloc | apply pw_below_drewN | apply below_drew1 | refine below_set ?_ GE234.out) | exact HB.out))))
   have n4_ := Aside0.mk (blk_below (g := gb234) (o := .cells #[.int .i64 a0_0, .slice A0_1 l0_1.length c0_1, .slice A0_2 l0_2.length c0_2] 25 (0, 0)) (by (with_reducible repeat (first | refine blk_drewN ?_ _ | refine blk_drew ?_ | refine blk_alloc ?_ _)); exact BK234.out) hb)
   have n5_ := Aside0.mk (below_step (by repeat (first | (with_reducible first | exact HB.out | apply below_alloc | apply pw_below_drewN | apply below_drew1 | refine below_set ?_ GE234.out) | exact HB.out)) hb)
   clear HO238
   clear HO241
   clear HO244
   clear BK234
   clear HB
   have HO238 := n0_
   have HO241 := n1_
   have HO244 := n2_
   have HO247 := n3_
   have BK234 := n4_
   have HB := n5_
   clear n0_ n1_ n2_ n3_ n4_ n5_
   (try clear hb)
   (try clear hb2)
   (try clear hk)
   (try clear hi)
   (try clear ho0)
   obtain ⟨Ao23, co23, eo23⟩ := Kd.N_slice HO238.out
   (first | subst eo23 | (injection eo23 with f1_ f2_ f3_; have f4_ := f1_.symm; have f5_ := f3_.symm; clear f1_ f2_ f3_; subst f4_; subst f5_))
   obtain ⟨Ao25, co25, eo25⟩ := Kd.V_slice HO241.out
   (first | subst eo25 | (injection eo25 with f1_ f2_ f3_; have f4_ := f1_.symm; have f5_ := f3_.symm; clear f1_ f2_ f3_; subst f4_; subst f5_))
   refine hK.out _ _ ⟨(blk_cell BK234.out 0).trans rfl, (blk_cell BK234.out 1).trans rfl, (blk_cell BK234.out 2).trans rfl⟩ (fun hHeld => ?_)
   clear hK K
   refine norm_ (a' := ?_) ?_ ?_
   rotate_left
   ·show Act.put _ (some 24) _ = _
    simp only [Act.put, List.setIfInBounds_toArray, List.set_cons_zero, List.set_cons_succ, i64_w, i32_w]
    rfl
   refine last_ (i := 11) (N := none) #[true, true, true, true, true, true, true, true, true, true, true, true, false, false, false] rfl rfl (one_of HT_.out (by kernel_rfl)) (by decide) (fun K hK => ?_)
   have hs22 : w21.cell? ⟨gb234, 0, none⟩ = some (.int .i64 a0_0) := (blk_cell BK234.out 0).trans rfl
   have hfs22 := blk_frozen BK234.out 0
   have hs24 : w21.cell? ⟨gb234, 1, none⟩ = some (.slice A0_1 l0_1.length c0_1) := (blk_cell BK234.out 1).trans rfl
   have hfs24 := blk_frozen BK234.out 1
   have hs26 : w21.cell? ⟨gb234, 2, none⟩ = some (.slice A0_2 l0_2.length c0_2) := (blk_cell BK234.out 2).trans rfl
   have hfs26 := blk_frozen BK234.out 2
   refine skip_ (w1 := ?_) (by rfl) rfl ?_ ?_
   rotate_left
   ·go_simp
    rfl
   refine hK.out _ _ ?_
   clear hK K
   refine pure_ (i := 12) (N := some 1) (v := ?_) (a' := ?_) #[true, true, true, true, true, true, true, true, true, true, true, true, true, false, false] rfl rfl (any_of HT_.out (by kernel_rfl)) (fun _ _ _ h => h) (Or.inl ⟨by rfl, ?_⟩) ?_ ?_
   rotate_left
   ·intro w'
    go_simp
    with_reducible rfl
   rotate_left
   ·simp only [Act.put, List.setIfInBounds_toArray, List.set_cons_zero, List.set_cons_succ, i64_w, i32_w]
    rfl
   refine pure_ (i := 13) (N := some 2) (v := ?_) (a' := ?_) #[true, true, true, true, true, true, true, true, true, true, true, true, true, true, false] rfl rfl (any_of HT_.out (by kernel_rfl)) (fun _ _ _ h => h) (Or.inl ⟨by rfl, ?_⟩) ?_ ?_
   rotate_left
   ·intro w'
    go_simp
    with_reducible rfl
   rotate_left
   ·simp only [Act.put, List.setIfInBounds_toArray, List.set_cons_zero, List.set_cons_succ, i64_w, i32_w]
    rfl
   refine pure_ (i := 14) (N := some 3) (v := ?_) (a' := ?_) #[true, true, true, true, true, true, true, true, true, true, true, true, true, true, true] rfl rfl (any_of HT_.out (by kernel_rfl)) (fun _ _ _ h => h) (Or.inl ⟨by rfl, ?_⟩) ?_ ?_
   rotate_left
   ·intro w'
    go_simp
    with_reducible rfl
   rotate_left
   ·simp only [Act.put, List.setIfInBounds_toArray, List.set_cons_zero, List.set_cons_succ, i64_w, i32_w]
    rfl
   refine done_ (done_of HT_.out (by kernel_rfl)) ?_
   obtain ⟨Ao27, co27, eo27⟩ := Kd.R_slice HO247.out
   subst eo27
   go_upto_region 5 with (first | ((with_reducible refine gate_callee (f := 11) rfl ?_); refine goesL_ (some 34) rfl rfl Try.func11 (by kernel_rfl) rfl #[.slice Ao27 t245.length co27, .string (a3.extract 0 ((ji10) : Int).toNat), .int .i64 a4] rfl (by (try simp only [List.map_toArray, List.map_cons, List.map_nil]); first | done | (simp only [hji10]; rfl) | rfl | (simp only [List.length_drop, List.length_take]; rfl)) ?_; (with_reducible refine (judge_Where.calls _ _ t245 (a3.extract 0 ((ji10) : Int).toNat) a4 t248 t249 _ ?side1 ?side2 A13.out).mono ?_); (case side1 => refine (Kd.R_reads' (e := 80) (base := w.heap.size) (ok := fun k_ => True) (n := t245.length) (c := co27) ?_).2.2; exact (by (with_reducible repeat (first | apply Kd.R_alloc | apply Kd.R_drewN | apply Kd.R_drew)); exact (Kd.R_mono (Kd.R_far (p := ⟨gb234, 2, none⟩) (Kd.R_far (p := ⟨gb234, 1, none⟩) (Kd.R_far (p := ⟨gb234, 0, none⟩) (Kd.R_types HO247.out BK234.out (by decide)) (fun _ hk => hk.2) (.int .i64 t235)) (fun _ hk => hk.2) (.slice Ao23 t236.length co23)) (fun _ hk => hk.2) (.slice Ao25 t239.length co25)) (fun _ h_ => h_.1)))); (case side2 => exact (Kd.R_reads' HO247.out).2.1); rintro e w28 ⟨v250, rfl, ho0, hb⟩; refine ⟨_, rfl, ?_⟩; have n0_ := Aside0.mk (Kd.N_elder' (by (with_reducible repeat (first | apply Kd.N_alloc | apply Kd.N_drewN | apply Kd.N_drew)); exact (Kd.N_mono (Kd.N_far (p := ⟨gb234, 2, none⟩) (Kd.N_far (p := ⟨gb234, 1, none⟩) (Kd.N_far (p := ⟨gb234, 0, none⟩) (Kd.N_mono HO238.out (fun k_ hk => (⟨hk, hk.1.1⟩ : _ ∧ k_ ≠ gb234))) (fun _ hk => hk.2) (.int .i64 t235)) (fun _ hk => hk.2) (.slice Ao23 t236.length co23)) (fun _ hk => hk.2) (.slice Ao25 t239.length co25)) (fun _ h_ => h_.1))) (Kd.R_base ho0) hb); have n1_ := Aside0.mk (Kd.V_elder' (by (with_reducible repeat (first | apply Kd.V_alloc | apply Kd.V_drewN | apply Kd.V_drew)); exact (Kd.V_mono (Kd.V_far (p := ⟨gb234, 2, none⟩) (Kd.V_far (p := ⟨gb234, 1, none⟩) (Kd.V_far (p := ⟨gb234, 0, none⟩) (Kd.V_mono HO241.out (fun k_ hk => (⟨hk, hk.1.1.2⟩ : _ ∧ k_ ≠ gb234))) (fun _ hk => hk.2) (.int .i64 t235)) (fun _ hk => hk.2) (.slice Ao23 t236.length co23)) (fun _ hk => hk.2) (.slice Ao25 t239.length co25)) (fun _ h_ => h_.1))) (Kd.R_base ho0) hb); have n2_ := Aside0.mk (Kd.N_elder' (by (with_reducible repeat (first | apply Kd.N_alloc | apply Kd.N_drewN | apply Kd.N_drew)); exact (Kd.N_mono (Kd.N_far (p := ⟨gb234, 2, none⟩) (Kd.N_far (p := ⟨gb234, 1, none⟩) (Kd.N_far (p := ⟨gb234, 0, none⟩) (Kd.N_mono HO244.out (fun k_ hk => (⟨hk, hk.1.2⟩ : _ ∧ k_ ≠ gb234))) (fun _ hk => hk.2) (.int .i64 t235)) (fun _ hk => hk.2) (.slice Ao23 t236.length co23)) (fun _ hk => hk.2) (.slice Ao25 t239.length co25)) (fun _ h_ => h_.1))) (Kd.R_base ho0) hb); have n3_ := Aside0.mk (Kd.R_below (by (with_reducible repeat (first | apply Kd.R_alloc | apply Kd.R_drewN | apply Kd.R_drew)); exact (Kd.R_mono (Kd.R_far (p := ⟨gb234, 2, none⟩) (Kd.R_far (p := ⟨gb234, 1, none⟩) (Kd.R_far (p := ⟨gb234, 0, none⟩) (Kd.R_types HO247.out BK234.out (by decide)) (fun _ hk => hk.2) (.int .i64 t235)) (fun _ hk => hk.2) (.slice Ao23 t236.length co23)) (fun _ hk => hk.2) (.slice Ao25 t239.length co25)) (fun _ h_ => h_.1))) hb); have n4_ := Aside0.mk (Kd.R_lower ho0 (below_size (by repeat (first | (with_reducible first | exact HB.out | apply below_alloc | apply pw_below_drewN | apply below_drew1 | refine below_set ?_ GE234.out) | exact HB.out)))); have n5_ := Aside0.mk (blk_below (g := gb234) (o := .cells #[.int .i64 t235, .slice Ao23 t236.length co23, .slice Ao25 t239.length co25] 25 (0, 0)) (by (with_reducible repeat (first | refine blk_drewN ?_ _ | refine blk_drew ?_ | refine blk_alloc ?_ _)); refine blk_put (cs := #[.int .i64 t235, .slice Ao23 t236.length co23, .slice A0_2 l0_2.length c0_2]) ?_ 2 _ rfl; (with_reducible repeat (first | refine blk_drewN ?_ _ | refine blk_drew ?_ | refine blk_alloc ?_ _)); refine blk_put (cs := #[.int .i64 t235, .slice A0_1 l0_1.length c0_1, .slice A0_2 l0_2.length c0_2]) ?_ 1 _ rfl; (with_reducible repeat (first | refine blk_drewN ?_ _ | refine blk_drew ?_ | refine blk_alloc ?_ _)); refine blk_put (cs := #[.int .i64 a0_0, .slice A0_1 l0_1.length c0_1, .slice A0_2 l0_2.length c0_2]) ?_ 0 _ rfl; (with_reducible repeat (first | refine blk_drewN ?_ _ | refine blk_drew ?_ | refine blk_alloc ?_ _)); exact BK234.out) hb); have n6_ := Aside0.mk (below_step (by repeat (first | (with_reducible first | exact HB.out | apply below_alloc | apply pw_below_drewN | apply below_drew1 | refine below_set ?_ GE234.out) | exact HB.out)) hb); clear HO238; clear HO241; clear HO244; clear HO247; clear BK234; clear HB; have HO238 := n0_; have HO241 := n1_; have HO244 := n2_; have HO247 := n3_; have HO251 := n4_; have BK234 := n5_; have HB := n6_; clear n0_ n1_ n2_ n3_ n4_ n5_ n6_; (try clear hb); (try clear hb2); (try clear hk); (try clear hi); (try clear ho0); have hcz29_0 : w28.cell? ⟨gb234, 0, none⟩ = some (.int .i64 t235) := (blk_cell BK234.out 0).trans rfl; have hcz29_1 : w28.cell? ⟨gb234, 1, none⟩ = some (.slice Ao23 t236.length co23) := (blk_cell BK234.out 1).trans rfl; have hcz29_2 : w28.cell? ⟨gb234, 2, none⟩ = some (.slice Ao25 t239.length co25) := (blk_cell BK234.out 2).trans rfl; have hfz29_0 := blk_frozen BK234.out 0; have hfz29_1 := blk_frozen BK234.out 1; have hfz29_2 := blk_frozen BK234.out 2; obtain ⟨Ao30, co30, eo30⟩ := Kd.N_slice HO244.out; subst eo30) | ((with_reducible refine gate_callee (f := 12) rfl ?_); refine goesL_ (some 41) rfl rfl Try.func12 (by kernel_rfl) rfl #[.agg #[.int .i64 t235, .slice Ao23 t236.length co23, .slice Ao25 t239.length co25], .slice Ao30 t242.length co30, .slice Ao27 t245.length co27] rfl (by (try simp only [List.map_toArray, List.map_cons, List.map_nil]); first | done | rfl | (simp only [List.length_drop, List.length_take]; rfl)) ?_; (with_reducible refine (judge_Stray.calls t235 _ _ t236 _ _ t239 _ _ t242 _ _ t245 t252 t253 _ ?side1 ?side2 ?side3 ?side4 ?side5 ?side6 ?side7 ?side8 A14.out).mono ?_); (case side1 => repeat (first | exact (Kd.N_reads' HO238.out).2.2 | (with_reducible refine Kd.C_alloc ?_ _) | (with_reducible refine Kd.C_drewN ?_ _) | (with_reducible refine Kd.C_drew ?_))); (case side2 => exact (Kd.N_reads' HO238.out).2.1); (case side3 => repeat (first | exact (Kd.V_reads' HO241.out).2.2 | (with_reducible refine Kd.C_alloc ?_ _) | (with_reducible refine Kd.C_drewN ?_ _) | (with_reducible refine Kd.C_drew ?_))); (case side4 => exact (Kd.V_reads' HO241.out).2.1); (case side5 => repeat (first | exact (Kd.N_reads' HO244.out).2.2 | (with_reducible refine Kd.C_alloc ?_ _) | (with_reducible refine Kd.C_drewN ?_ _) | (with_reducible refine Kd.C_drew ?_))); (case side6 => exact (Kd.N_reads' HO244.out).2.1); (case side7 => repeat (first | exact (Kd.R_reads' HO247.out).2.2 | (with_reducible refine Kd.C_alloc ?_ _) | (with_reducible refine Kd.C_drewN ?_ _) | (with_reducible refine Kd.C_drew ?_))); (case side8 => exact (Kd.R_reads' HO247.out).2.1); rintro e w31 ⟨rfl, hb⟩; refine ⟨_, rfl, ?_⟩; have n0_ := Aside0.mk (Kd.N_below (by (with_reducible repeat (first | apply Kd.N_alloc | apply Kd.N_drewN | apply Kd.N_drew)); exact HO238.out) hb); have n1_ := Aside0.mk (Kd.V_below (by (with_reducible repeat (first | apply Kd.V_alloc | apply Kd.V_drewN | apply Kd.V_drew)); exact HO241.out) hb); have n2_ := Aside0.mk (Kd.N_below (by (with_reducible repeat (first | apply Kd.N_alloc | apply Kd.N_drewN | apply Kd.N_drew)); exact HO244.out) hb); have n3_ := Aside0.mk (Kd.R_below (by (with_reducible repeat (first | apply Kd.R_alloc | apply Kd.R_drewN | apply Kd.R_drew)); exact HO247.out) hb); have n4_ := Aside0.mk (Kd.R_below (by (with_reducible repeat (first | apply Kd.R_alloc | apply Kd.R_drewN | apply Kd.R_drew)); exact HO251.out) hb); have n5_ := Aside0.mk (blk_below (g := gb234) (o := .cells #[.int .i64 t235, .slice Ao23 t236.length co23, .slice Ao25 t239.length co25] 25 (0, 0)) (by (with_reducible repeat (first | refine blk_drewN ?_ _ | refine blk_drew ?_ | refine blk_alloc ?_ _)); exact BK234.out) hb); have n6_ := Aside0.mk (below_step (by repeat (first | (with_reducible first | exact HB.out | apply below_alloc | apply pw_below_drewN | apply below_drew1 | refine below_set ?_ GE234.out) | exact HB.out)) hb); clear HO238; clear HO241; clear HO244; clear HO247; clear HO251; clear BK234; clear HB; have HO238 := n0_; have HO241 := n1_; have HO244 := n2_; have HO247 := n3_; have HO251 := n4_; have BK234 := n5_; have HB := n6_; clear n0_ n1_ n2_ n3_ n4_ n5_ n6_; (try clear hb); (try clear hb2); (try clear hk); (try clear hi); have hcz32_0 : w31.cell? ⟨gb234, 0, none⟩ = some (.int .i64 t235) := (blk_cell BK234.out 0).trans rfl; have hcz32_1 : w31.cell? ⟨gb234, 1, none⟩ = some (.slice Ao23 t236.length co23) := (blk_cell BK234.out 1).trans rfl; have hcz32_2 : w31.cell? ⟨gb234, 2, none⟩ = some (.slice Ao25 t239.length co25) := (blk_cell BK234.out 2).trans rfl; have hfz32_0 := blk_frozen BK234.out 0; have hfz32_1 := blk_frozen BK234.out 1; have hfz32_2 := blk_frozen BK234.out 2) | ((with_reducible refine gate_callee (f := 13) rfl ?_); refine goesL_ (some 48) rfl rfl Try.func13 (by kernel_rfl) rfl #[.agg #[.int .i64 t235, .slice Ao23 t236.length co23, .slice Ao25 t239.length co25], .slice Ao27 t245.length co27, .int .i64 a5] rfl (by (try simp only [List.map_toArray, List.map_cons, List.map_nil]); first | done | rfl | (simp only [List.length_drop, List.length_take]; rfl)) ?_; (with_reducible refine (judge_Hears.calls k t235 _ _ t236 _ _ t239 _ _ t245 a5 t254 t257 _ ?side1 ?side2 ?side3 ?side4 ?side5 ?side6 A15.out).mono ?_); (case side1 => repeat (first | exact (Kd.N_reads' HO238.out).2.2 | (with_reducible refine Kd.C_alloc ?_ _) | (with_reducible refine Kd.C_drewN ?_ _) | (with_reducible refine Kd.C_drew ?_))); (case side2 => exact (Kd.N_reads' HO238.out).2.1); (case side3 => repeat (first | exact (Kd.V_reads' HO241.out).2.2 | (with_reducible refine Kd.C_alloc ?_ _) | (with_reducible refine Kd.C_drewN ?_ _) | (with_reducible refine Kd.C_drew ?_))); (case side4 => exact (Kd.V_reads' HO241.out).2.1); (case side5 => repeat (first | exact (Kd.R_reads' HO247.out).2.2 | (with_reducible refine Kd.C_alloc ?_ _) | (with_reducible refine Kd.C_drewN ?_ _) | (with_reducible refine Kd.C_drew ?_))); (case side6 => exact (Kd.R_reads' HO247.out).2.1); rintro e w33 ⟨v255, rfl, ho0, hb⟩; refine ⟨_, rfl, ?_⟩; have n0_ := Aside0.mk (Kd.N_elder' (by (with_reducible repeat (first | apply Kd.N_alloc | apply Kd.N_drewN | apply Kd.N_drew)); exact HO238.out) (Kd.R_base ho0) hb); have n1_ := Aside0.mk (Kd.V_elder' (by (with_reducible repeat (first | apply Kd.V_alloc | apply Kd.V_drewN | apply Kd.V_drew)); exact HO241.out) (Kd.R_base ho0) hb); have n2_ := Aside0.mk (Kd.N_elder' (by (with_reducible repeat (first | apply Kd.N_alloc | apply Kd.N_drewN | apply Kd.N_drew)); exact HO244.out) (Kd.R_base ho0) hb); have n3_ := Aside0.mk (Kd.R_below (by (with_reducible repeat (first | apply Kd.R_alloc | apply Kd.R_drewN | apply Kd.R_drew)); exact HO247.out) hb); have n4_ := Aside0.mk (Kd.R_elder' (by (with_reducible repeat (first | apply Kd.R_alloc | apply Kd.R_drewN | apply Kd.R_drew)); exact HO251.out) (Kd.R_base ho0) hb); have n5_ := Aside0.mk (Kd.R_lower (Kd.R_new' ho0 (Kd.R_lt (by (with_reducible repeat (first | apply Kd.R_alloc | apply Kd.R_drewN | apply Kd.R_drew)); exact HO251.out))) (below_size (by repeat (first | (with_reducible first | exact HB.out | apply below_alloc | apply pw_below_drewN | apply below_drew1 | refine below_set ?_ GE234.out) | exact HB.out)))); have n6_ := Aside0.mk (blk_below (g := gb234) (o := .cells #[.int .i64 t235, .slice Ao23 t236.length co23, .slice Ao25 t239.length co25] 25 (0, 0)) (by (with_reducible repeat (first | refine blk_drewN ?_ _ | refine blk_drew ?_ | refine blk_alloc ?_ _)); exact BK234.out) hb); have n7_ := Aside0.mk (below_step (by repeat (first | (with_reducible first | exact HB.out | apply below_alloc | apply pw_below_drewN | apply below_drew1 | refine below_set ?_ GE234.out) | exact HB.out)) hb); clear HO238; clear HO241; clear HO244; clear HO247; clear HO251; clear BK234; clear HB; have HO238 := n0_; have HO241 := n1_; have HO244 := n2_; have HO247 := n3_; have HO251 := n4_; have HO256 := n5_; have BK234 := n6_; have HB := n7_; clear n0_ n1_ n2_ n3_ n4_ n5_ n6_ n7_; (try clear hb); (try clear hb2); (try clear hk); (try clear hi); (try clear ho0)))
   (try simp only [Act.put, List.setIfInBounds_toArray, List.set_cons_zero, List.set_cons_succ])
   go_cut [59] (fun v59 wc => ∃ (kq : Nat) (x59_15 : Bool), v59 = .bool x59_15 ∧ Aside0 (footwaylaw20_JudgeTells.j0 kq t242 t245 (a3.extract 0 ((ji10) : Int).toNat) a4 a5 t248 t249 t252 t253 t254 t257 x59_15 t235 t236 t239 = some r) ∧ Aside0 (kq ≤ k) ∧ Aside0 (Kd.N (Kd.slice 4 Kd.bool) 67 wc w.heap.size (fun k_ => some k_ ≠ ((.slice Ao27 t245.length co27) : Value).ownBlock ∧ some k_ ≠ (v250 : Value).ownBlock ∧ some k_ ≠ (v255 : Value).ownBlock ∧ some k_ ≠ ((.slice Ao23 t236.length co23) : Value).ownBlock ∧ k_ ≠ gb234) (.slice Ao30 t242.length co30) t242) ∧ Aside0 (Kd.R k80 80 wc w.heap.size (fun _ => True) (.slice Ao27 t245.length co27) t245) ∧ Aside0 (Kd.R (Kd.int .i64) 3 wc w.heap.size (fun k_ => some k_ ≠ (v255 : Value).ownBlock) v250 t248) ∧ Aside0 (Kd.R (Kd.int .i64) 3 wc w.heap.size (fun k_ => some k_ ≠ (v250 : Value).ownBlock) v255 t254) ∧ Aside0 (Kd.N k64 64 wc w.heap.size (fun k_ => some k_ ≠ ((.slice Ao30 t242.length co30) : Value).ownBlock ∧ some k_ ≠ ((.slice Ao27 t245.length co27) : Value).ownBlock ∧ some k_ ≠ (v250 : Value).ownBlock ∧ some k_ ≠ (v255 : Value).ownBlock ∧ k_ ≠ gb234) (.slice Ao23 t236.length co23) t236) ∧ Aside0 (Kd.V k91 91 wc w.heap.size (fun k_ => some k_ ≠ ((.slice Ao30 t242.length co30) : Value).ownBlock ∧ some k_ ≠ ((.slice Ao27 t245.length co27) : Value).ownBlock ∧ some k_ ≠ (v250 : Value).ownBlock ∧ some k_ ≠ (v255 : Value).ownBlock ∧ some k_ ≠ ((.slice Ao23 t236.length co23) : Value).ownBlock ∧ k_ ≠ gb234) (.slice Ao25 t239.length co25) t239) ∧ Aside0 (wc.heap[gb234]? = some (.cells #[.int .i64 t235, (.slice Ao23 t236.length co23), (.slice Ao25 t239.length co25)] 25 (0, 0))) ∧ Aside0 (Below w.heap.size w wc))
   case first =>
    have H := HC16.out
    clear HC16
    replace H := Option.bind_eq_some_iff.mp H
    obtain ⟨t258, A340, H⟩ := H
    replace H : ((footwayref20_Twice.f t245).bind fun t259 => (if t258 = t259 then ((footwaylaw20_alive.f).bind fun t260 => (footwaylaw20_JudgeTells.j0 k t242 t245 (a3.extract 0 ((ji10) : Int).toNat) a4 a5 t248 t249 t252 t253 t254 t257 (!t260) t235 t236 t239)) else (footwaylaw20_JudgeTells.j0 k t242 t245 (a3.extract 0 ((ji10) : Int).toNat) a4 a5 t248 t249 t252 t253 t254 t257 true t235 t236 t239))) = some r := H
    have A34 := Aside0.mk A340
    clear A340
    replace H := Option.bind_eq_some_iff.mp H
    obtain ⟨t259, A350, H⟩ := H
    replace H : (if t258 = t259 then ((footwaylaw20_alive.f).bind fun t260 => (footwaylaw20_JudgeTells.j0 k t242 t245 (a3.extract 0 ((ji10) : Int).toNat) a4 a5 t248 t249 t252 t253 t254 t257 (!t260) t235 t236 t239)) else (footwaylaw20_JudgeTells.j0 k t242 t245 (a3.extract 0 ((ji10) : Int).toNat) a4 a5 t248 t249 t252 t253 t254 t257 true t235 t236 t239)) = some r := H
    have A35 := Aside0.mk A350
    clear A350
    by_cases c36 : t258 = t259
    ·rw [if_pos c36] at H
     have c36b0 : (t258 == t259) = true := beq_iff_eq.mpr c36
     have c36b1 : (t258 != t259) = false := bne_eq_false_iff_eq.mpr c36
     clear c36
     (first | rw [c36b0] | (simp only [i64_w, i32_w]; rw [c36b0]) | skip)
     replace H := Option.bind_eq_some_iff.mp H
     obtain ⟨t260, A370, H⟩ := H
     replace H : (footwaylaw20_JudgeTells.j0 k t242 t245 (a3.extract 0 ((ji10) : Int).toNat) a4 a5 t248 t249 t252 t253 t254 t257 (!t260) t235 t236 t239) = some r := H
     have A37 := Aside0.mk A370
     clear A370
     have H' := Aside0.mk H
     clear H
     go_wp2_with (first | ((with_reducible refine gate_callee (f := 14) rfl ?_); refine goesL_ (some 52) rfl rfl Try.func14 (by kernel_rfl) rfl #[.slice Ao27 t245.length co27] rfl (by (try simp only [List.map_toArray, List.map_cons, List.map_nil]); first | done | rfl | (simp only [List.length_drop, List.length_take]; rfl)) ?_; (with_reducible refine (judge_Twice.calls _ _ t245 t258 _ ?side1 ?side2 A34.out).mono ?_); (case side1 => repeat (first | exact (Kd.R_reads' HO247.out).2.2 | (with_reducible refine Kd.C_alloc ?_ _) | (with_reducible refine Kd.C_drewN ?_ _) | (with_reducible refine Kd.C_drew ?_))); (case side2 => exact (Kd.R_reads' HO247.out).2.1); rintro e w38 ⟨rfl, hb⟩; refine ⟨_, rfl, ?_⟩; have n0_ := Aside0.mk (Kd.N_below (by (with_reducible repeat (first | apply Kd.N_alloc | apply Kd.N_drewN | apply Kd.N_drew)); exact HO238.out) hb); have n1_ := Aside0.mk (Kd.V_below (by (with_reducible repeat (first | apply Kd.V_alloc | apply Kd.V_drewN | apply Kd.V_drew)); exact HO241.out) hb); have n2_ := Aside0.mk (Kd.N_below (by (with_reducible repeat (first | apply Kd.N_alloc | apply Kd.N_drewN | apply Kd.N_drew)); exact HO244.out) hb); have n3_ := Aside0.mk (Kd.R_below (by (with_reducible repeat (first | apply Kd.R_alloc | apply Kd.R_drewN | apply Kd.R_drew)); exact HO247.out) hb); have n4_ := Aside0.mk (Kd.R_below (by (with_reducible repeat (first | apply Kd.R_alloc | apply Kd.R_drewN | apply Kd.R_drew)); exact HO251.out) hb); have n5_ := Aside0.mk (Kd.R_below (by (with_reducible repeat (first | apply Kd.R_alloc | apply Kd.R_drewN | apply Kd.R_drew)); exact HO256.out) hb); have n6_ := Aside0.mk (blk_below (g := gb234) (o := .cells #[.int .i64 t235, .slice Ao23 t236.length co23, .slice Ao25 t239.length co25] 25 (0, 0)) (by (with_reducible repeat (first | refine blk_drewN ?_ _ | refine blk_drew ?_ | refine blk_alloc ?_ _)); exact BK234.out) hb); have n7_ := Aside0.mk (below_step (by repeat (first | (with_reducible first | exact HB.out | apply below_alloc | apply pw_below_drewN | apply below_drew1 | refine below_set ?_ GE234.out) | exact HB.out)) hb); clear HO238; clear HO241; clear HO244; clear HO247; clear HO251; clear HO256; clear BK234; clear HB; have HO238 := n0_; have HO241 := n1_; have HO244 := n2_; have HO247 := n3_; have HO251 := n4_; have HO256 := n5_; have BK234 := n6_; have HB := n7_; clear n0_ n1_ n2_ n3_ n4_ n5_ n6_ n7_; (try clear hb); (try clear hb2); (try clear hk); (try clear hi)) | ((with_reducible refine gate_callee (f := 15) rfl ?_); refine goesL_ (some 54) rfl rfl Try.func15 (by kernel_rfl) rfl #[.slice Ao27 t245.length co27] rfl (by (try simp only [List.map_toArray, List.map_cons, List.map_nil]); first | done | rfl | (simp only [List.length_drop, List.length_take]; rfl)) ?_; (with_reducible refine (footwayref20_Twice.calls _ _ t245 t259 _ ?side1 ?side2 A35.out).mono ?_); (case side1 => repeat (first | exact (Kd.R_reads' HO247.out).2.2 | (with_reducible refine Kd.C_alloc ?_ _) | (with_reducible refine Kd.C_drewN ?_ _) | (with_reducible refine Kd.C_drew ?_))); (case side2 => exact (Kd.R_reads' HO247.out).2.1); rintro e w39 ⟨rfl, hb⟩; refine ⟨_, rfl, ?_⟩; have n0_ := Aside0.mk (Kd.N_below (by (with_reducible repeat (first | apply Kd.N_alloc | apply Kd.N_drewN | apply Kd.N_drew)); exact HO238.out) hb); have n1_ := Aside0.mk (Kd.V_below (by (with_reducible repeat (first | apply Kd.V_alloc | apply Kd.V_drewN | apply Kd.V_drew)); exact HO241.out) hb); have n2_ := Aside0.mk (Kd.N_below (by (with_reducible repeat (first | apply Kd.N_alloc | apply Kd.N_drewN | apply Kd.N_drew)); exact HO244.out) hb); have n3_ := Aside0.mk (Kd.R_below (by (with_reducible repeat (first | apply Kd.R_alloc | apply Kd.R_drewN | apply Kd.R_drew)); exact HO247.out) hb); have n4_ := Aside0.mk (Kd.R_below (by (with_reducible repeat (first | apply Kd.R_alloc | apply Kd.R_drewN | apply Kd.R_drew)); exact HO251.out) hb); have n5_ := Aside0.mk (Kd.R_below (by (with_reducible repeat (first | apply Kd.R_alloc | apply Kd.R_drewN | apply Kd.R_drew)); exact HO256.out) hb); have n6_ := Aside0.mk (blk_below (g := gb234) (o := .cells #[.int .i64 t235, .slice Ao23 t236.length co23, .slice Ao25 t239.length co25] 25 (0, 0)) (by (with_reducible repeat (first | refine blk_drewN ?_ _ | refine blk_drew ?_ | refine blk_alloc ?_ _)); exact BK234.out) hb); have n7_ := Aside0.mk (below_step (by repeat (first | (with_reducible first | exact HB.out | apply below_alloc | apply pw_below_drewN | apply below_drew1 | refine below_set ?_ GE234.out) | exact HB.out)) hb); clear HO238; clear HO241; clear HO244; clear HO247; clear HO251; clear HO256; clear BK234; clear HB; have HO238 := n0_; have HO241 := n1_; have HO244 := n2_; have HO247 := n3_; have HO251 := n4_; have HO256 := n5_; have BK234 := n6_; have HB := n7_; clear n0_ n1_ n2_ n3_ n4_ n5_ n6_ n7_; (try clear hb); (try clear hb2); (try clear hk); (try clear hi)) | (go_at_call 16; (with_reducible refine (footwaylaw20_alive.calls  t260 _ A37.out).mono ?_); rintro e w40 ⟨rfl, hb⟩; have n0_ := Aside0.mk (Kd.N_below (by (with_reducible repeat (first | apply Kd.N_alloc | apply Kd.N_drewN | apply Kd.N_drew)); exact HO238.out) hb); have n1_ := Aside0.mk (Kd.V_below (by (with_reducible repeat (first | apply Kd.V_alloc | apply Kd.V_drewN | apply Kd.V_drew)); exact HO241.out) hb); have n2_ := Aside0.mk (Kd.N_below (by (with_reducible repeat (first | apply Kd.N_alloc | apply Kd.N_drewN | apply Kd.N_drew)); exact HO244.out) hb); have n3_ := Aside0.mk (Kd.R_below (by (with_reducible repeat (first | apply Kd.R_alloc | apply Kd.R_drewN | apply Kd.R_drew)); exact HO247.out) hb); have n4_ := Aside0.mk (Kd.R_below (by (with_reducible repeat (first | apply Kd.R_alloc | apply Kd.R_drewN | apply Kd.R_drew)); exact HO251.out) hb); have n5_ := Aside0.mk (Kd.R_below (by (with_reducible repeat (first | apply Kd.R_alloc | apply Kd.R_drewN | apply Kd.R_drew)); exact HO256.out) hb); have n6_ := Aside0.mk (blk_below (g := gb234) (o := .cells #[.int .i64 t235, .slice Ao23 t236.length co23, .slice Ao25 t239.length co25] 25 (0, 0)) (by (with_reducible repeat (first | refine blk_drewN ?_ _ | refine blk_drew ?_ | refine blk_alloc ?_ _)); exact BK234.out) hb); have n7_ := Aside0.mk (below_step (by repeat (first | (with_reducible first | exact HB.out | apply below_alloc | apply pw_below_drewN | apply below_drew1 | refine below_set ?_ GE234.out) | exact HB.out)) hb); clear HO238; clear HO241; clear HO244; clear HO247; clear HO251; clear HO256; clear BK234; clear HB; have HO238 := n0_; have HO241 := n1_; have HO244 := n2_; have HO247 := n3_; have HO251 := n4_; have HO256 := n5_; have BK234 := n6_; have HB := n7_; clear n0_ n1_ n2_ n3_ n4_ n5_ n6_ n7_; (try clear hb); (try clear hb2); (try clear hk); (try clear hi)))
     go_meet
     case rel => exact ⟨_, (!t260), (by first | rfl | (simp; done) | (simp [*]; done)), H', ⟨by first | omega | exact Nat.le_refl _⟩, ⟨by (with_reducible repeat (first | apply Kd.N_alloc | apply Kd.N_drewN | apply Kd.N_drew)); exact Kd.N_mono HO244.out (fun _ hk => ⟨hk.1.1.2, ⟨hk.1.2, ⟨hk.2, ⟨hk.1.1.1.1, hk.1.1.1.2⟩⟩⟩⟩)⟩, ⟨by (with_reducible repeat (first | apply Kd.R_alloc | apply Kd.R_drewN | apply Kd.R_drew)); exact HO247.out⟩, ⟨by (with_reducible repeat (first | apply Kd.R_alloc | apply Kd.R_drewN | apply Kd.R_drew)); exact Kd.R_mono HO251.out (fun _ hk => hk.2)⟩, ⟨by (with_reducible repeat (first | apply Kd.R_alloc | apply Kd.R_drewN | apply Kd.R_drew)); exact Kd.R_mono HO256.out (fun _ hk => hk.2)⟩, ⟨by (with_reducible repeat (first | apply Kd.N_alloc | apply Kd.N_drewN | apply Kd.N_drew)); exact Kd.N_mono HO238.out (fun _ hk => ⟨hk.1.1.1.2, ⟨hk.1.1.2, ⟨hk.1.2, ⟨hk.2, hk.1.1.1.1⟩⟩⟩⟩)⟩, ⟨by (with_reducible repeat (first | apply Kd.V_alloc | apply Kd.V_drewN | apply Kd.V_drew)); exact Kd.V_mono HO241.out (fun _ hk => ⟨hk.1.1.1.2, ⟨hk.1.1.2, ⟨hk.1.2, ⟨hk.2, ⟨hk.1.1.1.1.1, hk.1.1.1.1.2⟩⟩⟩⟩⟩)⟩, ⟨by (with_reducible repeat (first | refine blk_drewN ?_ _ | refine blk_drew ?_ | refine blk_alloc ?_ _)); exact BK234.out⟩, ⟨by repeat (first | (with_reducible first | exact HB.out | apply below_alloc | apply pw_below_drewN | apply below_drew1 | refine below_set ?_ GE234.out) | exact HB.out)⟩⟩
    ·rw [if_neg c36] at H
     have c36b0 : (t258 == t259) = false := beq_eq_false_iff_ne.mpr c36
     have c36b1 : (t258 != t259) = true := bne_iff_ne.mpr c36
     (first | rw [c36b0] | (simp only [i64_w, i32_w]; rw [c36b0]) | skip)
     have H' := Aside0.mk H
     clear H
     go_wp2_with (first | ((with_reducible refine gate_callee (f := 14) rfl ?_); refine goesL_ (some 52) rfl rfl Try.func14 (by kernel_rfl) rfl #[.slice Ao27 t245.length co27] rfl (by (try simp only [List.map_toArray, List.map_cons, List.map_nil]); first | done | rfl | (simp only [List.length_drop, List.length_take]; rfl)) ?_; (with_reducible refine (judge_Twice.calls _ _ t245 t258 _ ?side1 ?side2 A34.out).mono ?_); (case side1 => repeat (first | exact (Kd.R_reads' HO247.out).2.2 | (with_reducible refine Kd.C_alloc ?_ _) | (with_reducible refine Kd.C_drewN ?_ _) | (with_reducible refine Kd.C_drew ?_))); (case side2 => exact (Kd.R_reads' HO247.out).2.1); rintro e w41 ⟨rfl, hb⟩; refine ⟨_, rfl, ?_⟩; have n0_ := Aside0.mk (Kd.N_below (by (with_reducible repeat (first | apply Kd.N_alloc | apply Kd.N_drewN | apply Kd.N_drew)); exact HO238.out) hb); have n1_ := Aside0.mk (Kd.V_below (by (with_reducible repeat (first | apply Kd.V_alloc | apply Kd.V_drewN | apply Kd.V_drew)); exact HO241.out) hb); have n2_ := Aside0.mk (Kd.N_below (by (with_reducible repeat (first | apply Kd.N_alloc | apply Kd.N_drewN | apply Kd.N_drew)); exact HO244.out) hb); have n3_ := Aside0.mk (Kd.R_below (by (with_reducible repeat (first | apply Kd.R_alloc | apply Kd.R_drewN | apply Kd.R_drew)); exact HO247.out) hb); have n4_ := Aside0.mk (Kd.R_below (by (with_reducible repeat (first | apply Kd.R_alloc | apply Kd.R_drewN | apply Kd.R_drew)); exact HO251.out) hb); have n5_ := Aside0.mk (Kd.R_below (by (with_reducible repeat (first | apply Kd.R_alloc | apply Kd.R_drewN | apply Kd.R_drew)); exact HO256.out) hb); have n6_ := Aside0.mk (blk_below (g := gb234) (o := .cells #[.int .i64 t235, .slice Ao23 t236.length co23, .slice Ao25 t239.length co25] 25 (0, 0)) (by (with_reducible repeat (first | refine blk_drewN ?_ _ | refine blk_drew ?_ | refine blk_alloc ?_ _)); exact BK234.out) hb); have n7_ := Aside0.mk (below_step (by repeat (first | (with_reducible first | exact HB.out | apply below_alloc | apply pw_below_drewN | apply below_drew1 | refine below_set ?_ GE234.out) | exact HB.out)) hb); clear HO238; clear HO241; clear HO244; clear HO247; clear HO251; clear HO256; clear BK234; clear HB; have HO238 := n0_; have HO241 := n1_; have HO244 := n2_; have HO247 := n3_; have HO251 := n4_; have HO256 := n5_; have BK234 := n6_; have HB := n7_; clear n0_ n1_ n2_ n3_ n4_ n5_ n6_ n7_; (try clear hb); (try clear hb2); (try clear hk); (try clear hi)) | ((with_reducible refine gate_callee (f := 15) rfl ?_); refine goesL_ (some 54) rfl rfl Try.func15 (by kernel_rfl) rfl #[.slice Ao27 t245.length co27] rfl (by (try simp only [List.map_toArray, List.map_cons, List.map_nil]); first | done | rfl | (simp only [List.length_drop, List.length_take]; rfl)) ?_; (with_reducible refine (footwayref20_Twice.calls _ _ t245 t259 _ ?side1 ?side2 A35.out).mono ?_); (case side1 => repeat (first | exact (Kd.R_reads' HO247.out).2.2 | (with_reducible refine Kd.C_alloc ?_ _) | (with_reducible refine Kd.C_drewN ?_ _) | (with_reducible refine Kd.C_drew ?_))); (case side2 => exact (Kd.R_reads' HO247.out).2.1); rintro e w42 ⟨rfl, hb⟩; refine ⟨_, rfl, ?_⟩; have n0_ := Aside0.mk (Kd.N_below (by (with_reducible repeat (first | apply Kd.N_alloc | apply Kd.N_drewN | apply Kd.N_drew)); exact HO238.out) hb); have n1_ := Aside0.mk (Kd.V_below (by (with_reducible repeat (first | apply Kd.V_alloc | apply Kd.V_drewN | apply Kd.V_drew)); exact HO241.out) hb); have n2_ := Aside0.mk (Kd.N_below (by (with_reducible repeat (first | apply Kd.N_alloc | apply Kd.N_drewN | apply Kd.N_drew)); exact HO244.out) hb); have n3_ := Aside0.mk (Kd.R_below (by (with_reducible repeat (first | apply Kd.R_alloc | apply Kd.R_drewN | apply Kd.R_drew)); exact HO247.out) hb); have n4_ := Aside0.mk (Kd.R_below (by (with_reducible repeat (first | apply Kd.R_alloc | apply Kd.R_drewN | apply Kd.R_drew)); exact HO251.out) hb); have n5_ := Aside0.mk (Kd.R_below (by (with_reducible repeat (first | apply Kd.R_alloc | apply Kd.R_drewN | apply Kd.R_drew)); exact HO256.out) hb); have n6_ := Aside0.mk (blk_below (g := gb234) (o := .cells #[.int .i64 t235, .slice Ao23 t236.length co23, .slice Ao25 t239.length co25] 25 (0, 0)) (by (with_reducible repeat (first | refine blk_drewN ?_ _ | refine blk_drew ?_ | refine blk_alloc ?_ _)); exact BK234.out) hb); have n7_ := Aside0.mk (below_step (by repeat (first | (with_reducible first | exact HB.out | apply below_alloc | apply pw_below_drewN | apply below_drew1 | refine below_set ?_ GE234.out) | exact HB.out)) hb); clear HO238; clear HO241; clear HO244; clear HO247; clear HO251; clear HO256; clear BK234; clear HB; have HO238 := n0_; have HO241 := n1_; have HO244 := n2_; have HO247 := n3_; have HO251 := n4_; have HO256 := n5_; have BK234 := n6_; have HB := n7_; clear n0_ n1_ n2_ n3_ n4_ n5_ n6_ n7_; (try clear hb); (try clear hb2); (try clear hk); (try clear hi)))
     go_meet
     case rel => exact ⟨_, (true), (by first | rfl | (simp; done) | (simp [*]; done)), H', ⟨by first | omega | exact Nat.le_refl _⟩, ⟨by (with_reducible repeat (first | apply Kd.N_alloc | apply Kd.N_drewN | apply Kd.N_drew)); exact Kd.N_mono HO244.out (fun _ hk => ⟨hk.1.1.2, ⟨hk.1.2, ⟨hk.2, ⟨hk.1.1.1.1, hk.1.1.1.2⟩⟩⟩⟩)⟩, ⟨by (with_reducible repeat (first | apply Kd.R_alloc | apply Kd.R_drewN | apply Kd.R_drew)); exact HO247.out⟩, ⟨by (with_reducible repeat (first | apply Kd.R_alloc | apply Kd.R_drewN | apply Kd.R_drew)); exact Kd.R_mono HO251.out (fun _ hk => hk.2)⟩, ⟨by (with_reducible repeat (first | apply Kd.R_alloc | apply Kd.R_drewN | apply Kd.R_drew)); exact Kd.R_mono HO256.out (fun _ hk => hk.2)⟩, ⟨by (with_reducible repeat (first | apply Kd.N_alloc | apply Kd.N_drewN | apply Kd.N_drew)); exact Kd.N_mono HO238.out (fun _ hk => ⟨hk.1.1.1.2, ⟨hk.1.1.2, ⟨hk.1.2, ⟨hk.2, hk.1.1.1.1⟩⟩⟩⟩)⟩, ⟨by (with_reducible repeat (first | apply Kd.V_alloc | apply Kd.V_drewN | apply Kd.V_drew)); exact Kd.V_mono HO241.out (fun _ hk => ⟨hk.1.1.1.2, ⟨hk.1.1.2, ⟨hk.1.2, ⟨hk.2, ⟨hk.1.1.1.1.1, hk.1.1.1.1.2⟩⟩⟩⟩⟩)⟩, ⟨by (with_reducible repeat (first | refine blk_drewN ?_ _ | refine blk_drew ?_ | refine blk_alloc ?_ _)); exact BK234.out⟩, ⟨by repeat (first | (with_reducible first | exact HB.out | apply below_alloc | apply pw_below_drewN | apply below_drew1 | refine below_set ?_ GE234.out) | exact HB.out)⟩⟩
   case rest =>
    clear HC16
    try clear c1
    try clear c2
    try clear p2
    try clear c3
    try clear c8
    try clear c9
    try clear c10
    try clear c11
    try clear c11b0
    try clear c11b1
    try clear c12
    try clear c12b0
    try clear c12b1
    try clear c13
    try clear c14
    try clear c15
    try clear c36
    try clear c36b0
    try clear c36b1
    try clear hcz29_0
    try clear hcz29_1
    try clear hcz29_2
    try clear hcz32_0
    try clear hcz32_1
    try clear hcz32_2
    try clear hfz29_0
    try clear hfz29_1
    try clear hfz29_2
    try clear hfz32_0
    try clear hfz32_1
    try clear hfz32_2
    obtain ⟨kq, x59_15, rfl, HA, HJ15, HO_1, HO_2, HO_13, HO_17, HO_235001, HO_235002, BK234, HB⟩ := hcut
    cases kq with
    | zero => exact absurd HA.out (by simp [footwaylaw20_JudgeTells.j0])
    | succ kj15 =>
     have H := HA.out
     clear HA
     simp only [footwaylaw20_JudgeTells.j0] at H
     by_cases c43 : x59_15 = true
     ·subst c43
      have H1 : (some false) = some r := by rw [if_pos rfl] at H; exact H
      clear H
      have H := H1
      clear H1
      obtain rfl := Option.some.inj H
      go_wp2
      go_ret
      exact ⟨by first | rfl | (simp [errW_none, errW_some] <;> rfl) | (simp only [← hji10]; first | rfl | (simp [errW_none, errW_some] <;> rfl)) | (simp [*, errW_none, errW_some] <;> rfl), by repeat (first | (with_reducible first | exact HB.out | apply below_alloc | apply pw_below_drewN | apply below_drew1 | refine below_set ?_ GE234.out) | exact HB.out)⟩
     ·replace c43 := Bool.eq_false_iff.mpr c43
      subst c43
      have H1 : (if a4 < 1 then (footwaylaw20_JudgeTells.j1 kj15 t242 t245 (a3.extract 0 ((ji10) : Int).toNat) a4 a5 t248 t249 t252 t253 t254 t257 true t235 t236 t239) else (footwaylaw20_JudgeTells.j1 kj15 t242 t245 (a3.extract 0 ((ji10) : Int).toNat) a4 a5 t248 t249 t252 t253 t254 t257 (decide (a4 > 8)) t235 t236 t239)) = some r := by rw [if_neg (show ¬ (false = true) by decide)] at H; exact H
      clear H
      have H := H1
      clear H1
      have HC44 := Aside0.mk H
      clear H
      go_upto_block 0 with (fail)
      go_cut [] (fun wc => ∃ (kq : Nat), Aside0 (footwaylaw20_JudgeTells.j2 kq t242 t245 a5 t252 t253 t254 t257 t235 t236 t239 = some r) ∧ Aside0 (kq ≤ kj15) ∧ Aside0 (Kd.N (Kd.slice 4 Kd.bool) 67 wc w.heap.size (fun k_ => some k_ ≠ ((.slice Ao27 t245.length co27) : Value).ownBlock ∧ some k_ ≠ (v255 : Value).ownBlock ∧ some k_ ≠ ((.slice Ao23 t236.length co23) : Value).ownBlock ∧ k_ ≠ gb234) (.slice Ao30 t242.length co30) t242) ∧ Aside0 (Kd.R k80 80 wc w.heap.size (fun _ => True) (.slice Ao27 t245.length co27) t245) ∧ Aside0 (Kd.R (Kd.int .i64) 3 wc w.heap.size (fun _ => True) v255 t254) ∧ Aside0 (Kd.N k64 64 wc w.heap.size (fun k_ => some k_ ≠ ((.slice Ao30 t242.length co30) : Value).ownBlock ∧ some k_ ≠ ((.slice Ao27 t245.length co27) : Value).ownBlock ∧ some k_ ≠ (v255 : Value).ownBlock ∧ k_ ≠ gb234) (.slice Ao23 t236.length co23) t236) ∧ Aside0 (Kd.V k91 91 wc w.heap.size (fun k_ => some k_ ≠ ((.slice Ao30 t242.length co30) : Value).ownBlock ∧ some k_ ≠ ((.slice Ao27 t245.length co27) : Value).ownBlock ∧ some k_ ≠ (v255 : Value).ownBlock ∧ some k_ ≠ ((.slice Ao23 t236.length co23) : Value).ownBlock ∧ k_ ≠ gb234) (.slice Ao25 t239.length co25) t239) ∧ Aside0 (wc.heap[gb234]? = some (.cells #[.int .i64 t235, (.slice Ao23 t236.length co23), (.slice Ao25 t239.length co25)] 25 (0, 0))) ∧ Aside0 (Below w.heap.size w wc))
      case first =>
       have H := HC44.out
       clear HC44
       have HC45 := Aside0.mk H
       clear H
       go_upto_region 7 with (fail)
       go_cut [60] (fun v60 wc => ∃ (kq : Nat) (x60_44 : Bool), v60 = .bool x60_44 ∧ Aside0 (footwaylaw20_JudgeTells.j1 kq t242 t245 (a3.extract 0 ((ji10) : Int).toNat) a4 a5 t248 t249 t252 t253 t254 t257 x60_44 t235 t236 t239 = some r) ∧ Aside0 (kq ≤ kj15) ∧ Aside0 (Kd.N (Kd.slice 4 Kd.bool) 67 wc w.heap.size (fun k_ => some k_ ≠ ((.slice Ao27 t245.length co27) : Value).ownBlock ∧ some k_ ≠ (v250 : Value).ownBlock ∧ some k_ ≠ (v255 : Value).ownBlock ∧ some k_ ≠ ((.slice Ao23 t236.length co23) : Value).ownBlock ∧ k_ ≠ gb234) (.slice Ao30 t242.length co30) t242) ∧ Aside0 (Kd.R k80 80 wc w.heap.size (fun _ => True) (.slice Ao27 t245.length co27) t245) ∧ Aside0 (Kd.R (Kd.int .i64) 3 wc w.heap.size (fun k_ => some k_ ≠ (v255 : Value).ownBlock) v250 t248) ∧ Aside0 (Kd.R (Kd.int .i64) 3 wc w.heap.size (fun k_ => some k_ ≠ (v250 : Value).ownBlock) v255 t254) ∧ Aside0 (Kd.N k64 64 wc w.heap.size (fun k_ => some k_ ≠ ((.slice Ao30 t242.length co30) : Value).ownBlock ∧ some k_ ≠ ((.slice Ao27 t245.length co27) : Value).ownBlock ∧ some k_ ≠ (v250 : Value).ownBlock ∧ some k_ ≠ (v255 : Value).ownBlock ∧ k_ ≠ gb234) (.slice Ao23 t236.length co23) t236) ∧ Aside0 (Kd.V k91 91 wc w.heap.size (fun k_ => some k_ ≠ ((.slice Ao30 t242.length co30) : Value).ownBlock ∧ some k_ ≠ ((.slice Ao27 t245.length co27) : Value).ownBlock ∧ some k_ ≠ (v250 : Value).ownBlock ∧ some k_ ≠ (v255 : Value).ownBlock ∧ some k_ ≠ ((.slice Ao23 t236.length co23) : Value).ownBlock ∧ k_ ≠ gb234) (.slice Ao25 t239.length co25) t239) ∧ Aside0 (wc.heap[gb234]? = some (.cells #[.int .i64 t235, (.slice Ao23 t236.length co23), (.slice Ao25 t239.length co25)] 25 (0, 0))) ∧ Aside0 (Below w.heap.size w wc))
       case first =>
        have H := HC45.out
        clear HC45
        by_cases c46 : a4 < 1
        ·rw [if_pos c46] at H
         have c46b0 : decide (a4 < 1) = true := decide_eq_true c46
         clear c46
         (first | rw [c46b0] | (simp only [i64_w, i32_w]; rw [c46b0]) | skip)
         have H' := Aside0.mk H
         clear H
         go_wp2
         go_meet
         case rel => exact ⟨_, (true), (by first | rfl | (simp; done) | (simp [*]; done)), H', ⟨by have := HJ15.out; first | omega | exact Nat.le_refl _⟩, ⟨by (with_reducible repeat (first | apply Kd.N_alloc | apply Kd.N_drewN | apply Kd.N_drew)); exact HO_1.out⟩, ⟨by (with_reducible repeat (first | apply Kd.R_alloc | apply Kd.R_drewN | apply Kd.R_drew)); exact HO_2.out⟩, ⟨by (with_reducible repeat (first | apply Kd.R_alloc | apply Kd.R_drewN | apply Kd.R_drew)); exact HO_13.out⟩, ⟨by (with_reducible repeat (first | apply Kd.R_alloc | apply Kd.R_drewN | apply Kd.R_drew)); exact HO_17.out⟩, ⟨by (with_reducible repeat (first | apply Kd.N_alloc | apply Kd.N_drewN | apply Kd.N_drew)); exact HO_235001.out⟩, ⟨by (with_reducible repeat (first | apply Kd.V_alloc | apply Kd.V_drewN | apply Kd.V_drew)); exact HO_235002.out⟩, ⟨by (with_reducible repeat (first | refine blk_drewN ?_ _ | refine blk_drew ?_ | refine blk_alloc ?_ _)); exact BK234.out⟩, ⟨by repeat (first | (with_reducible first | exact HB.out | apply below_alloc | apply pw_below_drewN | apply below_drew1 | refine below_set ?_ GE234.out) | exact HB.out)⟩⟩
        ·rw [if_neg c46] at H
         have c46b0 : decide (a4 < 1) = false := decide_eq_false c46
         clear c46
         (first | rw [c46b0] | (simp only [i64_w, i32_w]; rw [c46b0]) | skip)
         have H' := Aside0.mk H
         clear H
         go_wp2
         go_meet
         case rel => exact ⟨_, (decide (a4 > 8)), (by first | rfl | (simp; done) | (simp [*]; done)), H', ⟨by have := HJ15.out; first | omega | exact Nat.le_refl _⟩, ⟨by (with_reducible repeat (first | apply Kd.N_alloc | apply Kd.N_drewN | apply Kd.N_drew)); exact HO_1.out⟩, ⟨by (with_reducible repeat (first | apply Kd.R_alloc | apply Kd.R_drewN | apply Kd.R_drew)); exact HO_2.out⟩, ⟨by (with_reducible repeat (first | apply Kd.R_alloc | apply Kd.R_drewN | apply Kd.R_drew)); exact HO_13.out⟩, ⟨by (with_reducible repeat (first | apply Kd.R_alloc | apply Kd.R_drewN | apply Kd.R_drew)); exact HO_17.out⟩, ⟨by (with_reducible repeat (first | apply Kd.N_alloc | apply Kd.N_drewN | apply Kd.N_drew)); exact HO_235001.out⟩, ⟨by (with_reducible repeat (first | apply Kd.V_alloc | apply Kd.V_drewN | apply Kd.V_drew)); exact HO_235002.out⟩, ⟨by (with_reducible repeat (first | refine blk_drewN ?_ _ | refine blk_drew ?_ | refine blk_alloc ?_ _)); exact BK234.out⟩, ⟨by repeat (first | (with_reducible first | exact HB.out | apply below_alloc | apply pw_below_drewN | apply below_drew1 | refine below_set ?_ GE234.out) | exact HB.out)⟩⟩
       case rest =>
        clear HC45
        try clear c1
        try clear c2
        try clear p2
        try clear c3
        try clear c4
        try clear c8
        try clear c9
        try clear c10
        try clear c11
        try clear c11b0
        try clear c11b1
        try clear c12
        try clear c12b0
        try clear c12b1
        try clear c13
        try clear c14
        try clear c15
        try clear c36
        try clear c36b0
        try clear c36b1
        try clear c43
        try clear c46
        try clear c46b0
        try clear hcz29_0
        try clear hcz29_1
        try clear hcz29_2
        try clear hcz32_0
        try clear hcz32_1
        try clear hcz32_2
        try clear hfz29_0
        try clear hfz29_1
        try clear hfz29_2
        try clear hfz32_0
        try clear hfz32_1
        try clear hfz32_2
        try clear p2
        obtain ⟨kq, x60_44, rfl, HA, HJ44, HO_1, HO_2, HO_13, HO_17, HO_235001, HO_235002, BK234, HB⟩ := hcut
        cases kq with
        | zero => exact absurd HA.out (by simp [footwaylaw20_JudgeTells.j1])
        | succ kj44 =>
         have H := HA.out
         clear HA
         simp only [footwaylaw20_JudgeTells.j1] at H
         by_cases c47 : x60_44 = true
         ·subst c47
          have H1 : (if t249 = 2 then (if (t248.length : Int) = 0 then (footwaylaw20_JudgeTells.j2 kj44 t242 t245 a5 t252 t253 t254 t257 t235 t236 t239) else (some false)) else (some false)) = some r := by rw [if_pos rfl] at H; exact H
          clear H
          have H := H1
          clear H1
          by_cases c48 : t249 = 2
          ·rw [if_pos c48] at H
           have c48b0 : (t249 == 2) = true := beq_iff_eq.mpr c48
           have c48b1 : (t249 != 2) = false := bne_eq_false_iff_eq.mpr c48
           clear c48
           by_cases c49 : (t248.length : Int) = 0
           ·rw [if_pos c49] at H
            have c49b0 : ((t248.length : Int) == 0) = true := beq_iff_eq.mpr c49
            have c49b1 : ((t248.length : Int) != 0) = false := bne_eq_false_iff_eq.mpr c49
            clear c49
            have H' := Aside0.mk H
            clear H
            obtain ⟨Ao50, co50, eo50⟩ := Kd.R_slice HO_13.out
            subst eo50
            go_wp2
            go_meet
            case rel => exact ⟨_, H', ⟨by have := HJ15.out; have := HJ44.out; first | omega | exact Nat.le_refl _⟩, ⟨by (with_reducible repeat (first | apply Kd.N_alloc | apply Kd.N_drewN | apply Kd.N_drew)); exact Kd.N_mono HO_1.out (fun _ hk => ⟨hk.1, ⟨hk.2.2.1, ⟨hk.2.2.2.1, hk.2.2.2.2⟩⟩⟩)⟩, ⟨by (with_reducible repeat (first | apply Kd.R_alloc | apply Kd.R_drewN | apply Kd.R_drew)); exact HO_2.out⟩, ⟨by (with_reducible repeat (first | apply Kd.R_alloc | apply Kd.R_drewN | apply Kd.R_drew)); exact Kd.R_mono HO_17.out (fun _ hk => trivial)⟩, ⟨by (with_reducible repeat (first | apply Kd.N_alloc | apply Kd.N_drewN | apply Kd.N_drew)); exact Kd.N_mono HO_235001.out (fun _ hk => ⟨hk.1, ⟨hk.2.1, ⟨hk.2.2.2.1, hk.2.2.2.2⟩⟩⟩)⟩, ⟨by (with_reducible repeat (first | apply Kd.V_alloc | apply Kd.V_drewN | apply Kd.V_drew)); exact Kd.V_mono HO_235002.out (fun _ hk => ⟨hk.1, ⟨hk.2.1, ⟨hk.2.2.2.1, ⟨hk.2.2.2.2.1, hk.2.2.2.2.2⟩⟩⟩⟩)⟩, ⟨by (with_reducible repeat (first | refine blk_drewN ?_ _ | refine blk_drew ?_ | refine blk_alloc ?_ _)); exact BK234.out⟩, ⟨by repeat (first | (with_reducible first | exact HB.out | apply below_alloc | apply pw_below_drewN | apply below_drew1 | refine below_set ?_ GE234.out) | exact HB.out)⟩⟩
           ·rw [if_neg c49] at H
            have c49b0 : ((t248.length : Int) == 0) = false := beq_eq_false_iff_ne.mpr c49
            have c49b1 : ((t248.length : Int) != 0) = true := bne_iff_ne.mpr c49
            have c49b2 : ¬ (t248 = []) := fun h_ => c49 (by rw [h_]; rfl)
            obtain rfl := Option.some.inj H
            obtain ⟨Ao51, co51, eo51⟩ := Kd.R_slice HO_13.out
            subst eo51
            go_wp2
            go_ret
            exact ⟨by first | rfl | (simp [errW_none, errW_some] <;> rfl) | (simp only [← hji10]; first | rfl | (simp [errW_none, errW_some] <;> rfl)) | (simp [*, errW_none, errW_some] <;> rfl), by repeat (first | (with_reducible first | exact HB.out | apply below_alloc | apply pw_below_drewN | apply below_drew1 | refine below_set ?_ GE234.out) | exact HB.out)⟩
          ·rw [if_neg c48] at H
           have c48b0 : (t249 == 2) = false := beq_eq_false_iff_ne.mpr c48
           have c48b1 : (t249 != 2) = true := bne_iff_ne.mpr c48
           obtain rfl := Option.some.inj H
           go_wp2
           go_ret
           exact ⟨by first | rfl | (simp [errW_none, errW_some] <;> rfl) | (simp only [← hji10]; first | rfl | (simp [errW_none, errW_some] <;> rfl)) | (simp [*, errW_none, errW_some] <;> rfl), by repeat (first | (with_reducible first | exact HB.out | apply below_alloc | apply pw_below_drewN | apply below_drew1 | refine below_set ?_ GE234.out) | exact HB.out)⟩
         ·replace c47 := Bool.eq_false_iff.mpr c47
          subst c47
          have H1 : ((footwayref20_Segs.f t245 a4).bind fun t261 => (if t261 = true then (if t249 = 0 then ((footwayref20_Where.f kj44 t245 (a3.extract 0 ((ji10) : Int).toNat) a4).bind fun t262 => ((footwayref06_Same.f kj44 t248 t262).bind fun t265 => (if t265 = true then (footwaylaw20_JudgeTells.j2 kj44 t242 t245 a5 t252 t253 t254 t257 t235 t236 t239) else (some false)))) else (some false)) else (if t249 = 1 then (if (t248.length : Int) = 0 then (footwaylaw20_JudgeTells.j2 kj44 t242 t245 a5 t252 t253 t254 t257 t235 t236 t239) else (some false)) else (some false)))) = some r := by rw [if_neg (show ¬ (false = true) by decide)] at H; exact H
          clear H
          have H := H1
          clear H1
          replace H := Option.bind_eq_some_iff.mp H
          obtain ⟨t261, A520, H⟩ := H
          replace H : (if t261 = true then (if t249 = 0 then ((footwayref20_Where.f kj44 t245 (a3.extract 0 ((ji10) : Int).toNat) a4).bind fun t262 => ((footwayref06_Same.f kj44 t248 t262).bind fun t265 => (if t265 = true then (footwaylaw20_JudgeTells.j2 kj44 t242 t245 a5 t252 t253 t254 t257 t235 t236 t239) else (some false)))) else (some false)) else (if t249 = 1 then (if (t248.length : Int) = 0 then (footwaylaw20_JudgeTells.j2 kj44 t242 t245 a5 t252 t253 t254 t257 t235 t236 t239) else (some false)) else (some false))) = some r := H
          have A52 := Aside0.mk A520
          clear A520
          by_cases c53 : t261 = true
          ·subst c53
           have H1 : (if t249 = 0 then ((footwayref20_Where.f kj44 t245 (a3.extract 0 ((ji10) : Int).toNat) a4).bind fun t262 => ((footwayref06_Same.f kj44 t248 t262).bind fun t265 => (if t265 = true then (footwaylaw20_JudgeTells.j2 kj44 t242 t245 a5 t252 t253 t254 t257 t235 t236 t239) else (some false)))) else (some false)) = some r := by rw [if_pos rfl] at H; exact H
           clear H
           have H := H1
           clear H1
           by_cases c54 : t249 = 0
           ·rw [if_pos c54] at H
            have c54b0 : (t249 == 0) = true := beq_iff_eq.mpr c54
            have c54b1 : (t249 != 0) = false := bne_eq_false_iff_eq.mpr c54
            clear c54
            replace H := Option.bind_eq_some_iff.mp H
            obtain ⟨t262, A550, H⟩ := H
            replace H : ((footwayref06_Same.f kj44 t248 t262).bind fun t265 => (if t265 = true then (footwaylaw20_JudgeTells.j2 kj44 t242 t245 a5 t252 t253 t254 t257 t235 t236 t239) else (some false))) = some r := H
            have A55 := Aside0.mk A550
            clear A550
            replace H := Option.bind_eq_some_iff.mp H
            obtain ⟨t265, A560, H⟩ := H
            replace H : (if t265 = true then (footwaylaw20_JudgeTells.j2 kj44 t242 t245 a5 t252 t253 t254 t257 t235 t236 t239) else (some false)) = some r := H
            have A56 := Aside0.mk A560
            clear A560
            by_cases c57 : t265 = true
            ·subst c57
             have H1 : (footwaylaw20_JudgeTells.j2 kj44 t242 t245 a5 t252 t253 t254 t257 t235 t236 t239) = some r := by rw [if_pos rfl] at H; exact H
             clear H
             have H := H1
             clear H1
             have H' := Aside0.mk H
             clear H
             go_wp2_with (first | ((with_reducible refine gate_callee (f := 17) rfl ?_); refine goesL_ (some 77) rfl rfl Try.func17 (by kernel_rfl) rfl #[.slice Ao27 t245.length co27, .int .i64 a4] rfl (by (try simp only [List.map_toArray, List.map_cons, List.map_nil]); first | done | rfl | (simp only [List.length_drop, List.length_take]; rfl)) ?_; (with_reducible refine (footwayref20_Segs.calls _ _ t245 a4 true _ ?side1 ?side2 A52.out).mono ?_); (case side1 => repeat (first | exact (Kd.R_reads' HO_2.out).2.2 | (with_reducible refine Kd.C_alloc ?_ _) | (with_reducible refine Kd.C_drewN ?_ _) | (with_reducible refine Kd.C_drew ?_))); (case side2 => exact (Kd.R_reads' HO_2.out).2.1); rintro e w58 ⟨rfl, hb⟩; refine ⟨_, rfl, ?_⟩; have n0_ := Aside0.mk (Kd.N_below (by (with_reducible repeat (first | apply Kd.N_alloc | apply Kd.N_drewN | apply Kd.N_drew)); exact HO_1.out) hb); have n1_ := Aside0.mk (Kd.R_below (by (with_reducible repeat (first | apply Kd.R_alloc | apply Kd.R_drewN | apply Kd.R_drew)); exact HO_2.out) hb); have n2_ := Aside0.mk (Kd.R_below (by (with_reducible repeat (first | apply Kd.R_alloc | apply Kd.R_drewN | apply Kd.R_drew)); exact HO_13.out) hb); have n3_ := Aside0.mk (Kd.R_below (by (with_reducible repeat (first | apply Kd.R_alloc | apply Kd.R_drewN | apply Kd.R_drew)); exact HO_17.out) hb); have n4_ := Aside0.mk (Kd.N_below (by (with_reducible repeat (first | apply Kd.N_alloc | apply Kd.N_drewN | apply Kd.N_drew)); exact HO_235001.out) hb); have n5_ := Aside0.mk (Kd.V_below (by (with_reducible repeat (first | apply Kd.V_alloc | apply Kd.V_drewN | apply Kd.V_drew)); exact HO_235002.out) hb); have n6_ := Aside0.mk (blk_below (g := gb234) (o := .cells #[.int .i64 t235, .slice Ao23 t236.length co23, .slice Ao25 t239.length co25] 25 (0, 0)) (by (with_reducible repeat (first | refine blk_drewN ?_ _ | refine blk_drew ?_ | refine blk_alloc ?_ _)); exact BK234.out) hb); have n7_ := Aside0.mk (below_step (by repeat (first | (with_reducible first | exact HB.out | apply below_alloc | apply pw_below_drewN | apply below_drew1 | refine below_set ?_ GE234.out) | exact HB.out)) hb); clear HO_1; clear HO_2; clear HO_13; clear HO_17; clear HO_235001; clear HO_235002; clear BK234; clear HB; have HO_1 := n0_; have HO_2 := n1_; have HO_13 := n2_; have HO_17 := n3_; have HO_235001 := n4_; have HO_235002 := n5_; have BK234 := n6_; have HB := n7_; clear n0_ n1_ n2_ n3_ n4_ n5_ n6_ n7_; (try clear hb); (try clear hb2); (try clear hk); (try clear hi)) | (go_at_call 19; (with_reducible refine (footwayref20_Where.calls kj44 _ _ t245 (a3.extract 0 ((ji10) : Int).toNat) a4 t262 _ ?side1 ?side2 A55.out).mono ?_); (case side1 => repeat (first | exact (Kd.R_reads' HO_2.out).2.2 | (with_reducible refine Kd.C_alloc ?_ _) | (with_reducible refine Kd.C_drewN ?_ _) | (with_reducible refine Kd.C_drew ?_))); (case side2 => exact (Kd.R_reads' HO_2.out).2.1); rintro e w59 ⟨v263, rfl, ho0, hb⟩; have n0_ := Aside0.mk (Kd.N_elder' (by (with_reducible repeat (first | apply Kd.N_alloc | apply Kd.N_drewN | apply Kd.N_drew)); exact HO_1.out) (Kd.R_base ho0) hb); have n1_ := Aside0.mk (Kd.R_below (by (with_reducible repeat (first | apply Kd.R_alloc | apply Kd.R_drewN | apply Kd.R_drew)); exact HO_2.out) hb); have n2_ := Aside0.mk (Kd.R_elder' (by (with_reducible repeat (first | apply Kd.R_alloc | apply Kd.R_drewN | apply Kd.R_drew)); exact HO_13.out) (Kd.R_base ho0) hb); have n3_ := Aside0.mk (Kd.R_elder' (by (with_reducible repeat (first | apply Kd.R_alloc | apply Kd.R_drewN | apply Kd.R_drew)); exact HO_17.out) (Kd.R_base ho0) hb); have n4_ := Aside0.mk (Kd.N_elder' (by (with_reducible repeat (first | apply Kd.N_alloc | apply Kd.N_drewN | apply Kd.N_drew)); exact HO_235001.out) (Kd.R_base ho0) hb); have n5_ := Aside0.mk (Kd.V_elder' (by (with_reducible repeat (first | apply Kd.V_alloc | apply Kd.V_drewN | apply Kd.V_drew)); exact HO_235002.out) (Kd.R_base ho0) hb); have n6_ := Aside0.mk (Kd.R_lower (Kd.R_new' (Kd.R_new' ho0 (Kd.R_lt (by (with_reducible repeat (first | apply Kd.R_alloc | apply Kd.R_drewN | apply Kd.R_drew)); exact HO_13.out))) (Kd.R_lt (by (with_reducible repeat (first | apply Kd.R_alloc | apply Kd.R_drewN | apply Kd.R_drew)); exact HO_17.out))) (below_size (by repeat (first | (with_reducible first | exact HB.out | apply below_alloc | apply pw_below_drewN | apply below_drew1 | refine below_set ?_ GE234.out) | exact HB.out)))); have n7_ := Aside0.mk (blk_below (g := gb234) (o := .cells #[.int .i64 t235, .slice Ao23 t236.length co23, .slice Ao25 t239.length co25] 25 (0, 0)) (by (with_reducible repeat (first | refine blk_drewN ?_ _ | refine blk_drew ?_ | refine blk_alloc ?_ _)); exact BK234.out) hb); have n8_ := Aside0.mk (below_step (by repeat (first | (with_reducible first | exact HB.out | apply below_alloc | apply pw_below_drewN | apply below_drew1 | refine below_set ?_ GE234.out) | exact HB.out)) hb); clear HO_1; clear HO_2; clear HO_13; clear HO_17; clear HO_235001; clear HO_235002; clear BK234; clear HB; have HO_1 := n0_; have HO_2 := n1_; have HO_13 := n2_; have HO_17 := n3_; have HO_235001 := n4_; have HO_235002 := n5_; have HO264 := n6_; have BK234 := n7_; have HB := n8_; clear n0_ n1_ n2_ n3_ n4_ n5_ n6_ n7_ n8_; (try clear hb); (try clear hb2); (try clear hk); (try clear hi); (try clear ho0); obtain ⟨Ao60, co60, eo60⟩ := Kd.R_slice HO_13.out; subst eo60; obtain ⟨Ao61, co61, eo61⟩ := Kd.R_slice HO264.out; subst eo61) | (go_at_call 18; (with_reducible refine (footwayref06_Same.calls kj44 _ _ t248 _ _ t262 true _ ?side1 ?side2 ?side3 ?side4 A56.out).mono ?_); (case side1 => repeat (first | exact (Kd.R_reads' HO_13.out).2.2 | (with_reducible refine Kd.C_alloc ?_ _) | (with_reducible refine Kd.C_drewN ?_ _) | (with_reducible refine Kd.C_drew ?_))); (case side2 => exact (Kd.R_reads' HO_13.out).2.1); (case side3 => repeat (first | exact (Kd.R_reads' HO264.out).2.2 | (with_reducible refine Kd.C_alloc ?_ _) | (with_reducible refine Kd.C_drewN ?_ _) | (with_reducible refine Kd.C_drew ?_))); (case side4 => exact (Kd.R_reads' HO264.out).2.1); rintro e w' ⟨rfl, ⟨nd, rfl⟩⟩))
             go_meet
             case rel => exact ⟨_, H', ⟨by have := HJ15.out; have := HJ44.out; first | omega | exact Nat.le_refl _⟩, ⟨by (with_reducible repeat (first | apply Kd.N_alloc | apply Kd.N_drewN | apply Kd.N_drew)); exact Kd.N_mono HO_1.out (fun _ hk => ⟨hk.1.1, ⟨hk.1.2.2.1, ⟨hk.1.2.2.2.1, hk.1.2.2.2.2⟩⟩⟩)⟩, ⟨by (with_reducible repeat (first | apply Kd.R_alloc | apply Kd.R_drewN | apply Kd.R_drew)); exact HO_2.out⟩, ⟨by (with_reducible repeat (first | apply Kd.R_alloc | apply Kd.R_drewN | apply Kd.R_drew)); exact Kd.R_mono HO_17.out (fun _ hk => trivial)⟩, ⟨by (with_reducible repeat (first | apply Kd.N_alloc | apply Kd.N_drewN | apply Kd.N_drew)); exact Kd.N_mono HO_235001.out (fun _ hk => ⟨hk.1.1, ⟨hk.1.2.1, ⟨hk.1.2.2.2.1, hk.1.2.2.2.2⟩⟩⟩)⟩, ⟨by (with_reducible repeat (first | apply Kd.V_alloc | apply Kd.V_drewN | apply Kd.V_drew)); exact Kd.V_mono HO_235002.out (fun _ hk => ⟨hk.1.1, ⟨hk.1.2.1, ⟨hk.1.2.2.2.1, ⟨hk.1.2.2.2.2.1, hk.1.2.2.2.2.2⟩⟩⟩⟩)⟩, ⟨by (with_reducible repeat (first | refine blk_drewN ?_ _ | refine blk_drew ?_ | refine blk_alloc ?_ _)); exact BK234.out⟩, ⟨by repeat (first | (with_reducible first | exact HB.out | apply below_alloc | apply pw_below_drewN | apply below_drew1 | refine below_set ?_ GE234.out) | exact HB.out)⟩⟩
            ·replace c57 := Bool.eq_false_iff.mpr c57
             subst c57
             have H1 : (some false) = some r := by rw [if_neg (show ¬ (false = true) by decide)] at H; exact H
             clear H
             have H := H1
             clear H1
             obtain rfl := Option.some.inj H
             go_wp2_with (first | ((with_reducible refine gate_callee (f := 17) rfl ?_); refine goesL_ (some 77) rfl rfl Try.func17 (by kernel_rfl) rfl #[.slice Ao27 t245.length co27, .int .i64 a4] rfl (by (try simp only [List.map_toArray, List.map_cons, List.map_nil]); first | done | rfl | (simp only [List.length_drop, List.length_take]; rfl)) ?_; (with_reducible refine (footwayref20_Segs.calls _ _ t245 a4 true _ ?side1 ?side2 A52.out).mono ?_); (case side1 => repeat (first | exact (Kd.R_reads' HO_2.out).2.2 | (with_reducible refine Kd.C_alloc ?_ _) | (with_reducible refine Kd.C_drewN ?_ _) | (with_reducible refine Kd.C_drew ?_))); (case side2 => exact (Kd.R_reads' HO_2.out).2.1); rintro e w62 ⟨rfl, hb⟩; refine ⟨_, rfl, ?_⟩; have n0_ := Aside0.mk (Kd.N_below (by (with_reducible repeat (first | apply Kd.N_alloc | apply Kd.N_drewN | apply Kd.N_drew)); exact HO_1.out) hb); have n1_ := Aside0.mk (Kd.R_below (by (with_reducible repeat (first | apply Kd.R_alloc | apply Kd.R_drewN | apply Kd.R_drew)); exact HO_2.out) hb); have n2_ := Aside0.mk (Kd.R_below (by (with_reducible repeat (first | apply Kd.R_alloc | apply Kd.R_drewN | apply Kd.R_drew)); exact HO_13.out) hb); have n3_ := Aside0.mk (Kd.R_below (by (with_reducible repeat (first | apply Kd.R_alloc | apply Kd.R_drewN | apply Kd.R_drew)); exact HO_17.out) hb); have n4_ := Aside0.mk (Kd.N_below (by (with_reducible repeat (first | apply Kd.N_alloc | apply Kd.N_drewN | apply Kd.N_drew)); exact HO_235001.out) hb); have n5_ := Aside0.mk (Kd.V_below (by (with_reducible repeat (first | apply Kd.V_alloc | apply Kd.V_drewN | apply Kd.V_drew)); exact HO_235002.out) hb); have n6_ := Aside0.mk (blk_below (g := gb234) (o := .cells #[.int .i64 t235, .slice Ao23 t236.length co23, .slice Ao25 t239.length co25] 25 (0, 0)) (by (with_reducible repeat (first | refine blk_drewN ?_ _ | refine blk_drew ?_ | refine blk_alloc ?_ _)); exact BK234.out) hb); have n7_ := Aside0.mk (below_step (by repeat (first | (with_reducible first | exact HB.out | apply below_alloc | apply pw_below_drewN | apply below_drew1 | refine below_set ?_ GE234.out) | exact HB.out)) hb); clear HO_1; clear HO_2; clear HO_13; clear HO_17; clear HO_235001; clear HO_235002; clear BK234; clear HB; have HO_1 := n0_; have HO_2 := n1_; have HO_13 := n2_; have HO_17 := n3_; have HO_235001 := n4_; have HO_235002 := n5_; have BK234 := n6_; have HB := n7_; clear n0_ n1_ n2_ n3_ n4_ n5_ n6_ n7_; (try clear hb); (try clear hb2); (try clear hk); (try clear hi)) | (go_at_call 19; (with_reducible refine (footwayref20_Where.calls kj44 _ _ t245 (a3.extract 0 ((ji10) : Int).toNat) a4 t262 _ ?side1 ?side2 A55.out).mono ?_); (case side1 => repeat (first | exact (Kd.R_reads' HO_2.out).2.2 | (with_reducible refine Kd.C_alloc ?_ _) | (with_reducible refine Kd.C_drewN ?_ _) | (with_reducible refine Kd.C_drew ?_))); (case side2 => exact (Kd.R_reads' HO_2.out).2.1); rintro e w63 ⟨v263, rfl, ho0, hb⟩; have n0_ := Aside0.mk (Kd.N_elder' (by (with_reducible repeat (first | apply Kd.N_alloc | apply Kd.N_drewN | apply Kd.N_drew)); exact HO_1.out) (Kd.R_base ho0) hb); have n1_ := Aside0.mk (Kd.R_below (by (with_reducible repeat (first | apply Kd.R_alloc | apply Kd.R_drewN | apply Kd.R_drew)); exact HO_2.out) hb); have n2_ := Aside0.mk (Kd.R_elder' (by (with_reducible repeat (first | apply Kd.R_alloc | apply Kd.R_drewN | apply Kd.R_drew)); exact HO_13.out) (Kd.R_base ho0) hb); have n3_ := Aside0.mk (Kd.R_elder' (by (with_reducible repeat (first | apply Kd.R_alloc | apply Kd.R_drewN | apply Kd.R_drew)); exact HO_17.out) (Kd.R_base ho0) hb); have n4_ := Aside0.mk (Kd.N_elder' (by (with_reducible repeat (first | apply Kd.N_alloc | apply Kd.N_drewN | apply Kd.N_drew)); exact HO_235001.out) (Kd.R_base ho0) hb); have n5_ := Aside0.mk (Kd.V_elder' (by (with_reducible repeat (first | apply Kd.V_alloc | apply Kd.V_drewN | apply Kd.V_drew)); exact HO_235002.out) (Kd.R_base ho0) hb); have n6_ := Aside0.mk (Kd.R_lower (Kd.R_new' (Kd.R_new' ho0 (Kd.R_lt (by (with_reducible repeat (first | apply Kd.R_alloc | apply Kd.R_drewN | apply Kd.R_drew)); exact HO_13.out))) (Kd.R_lt (by (with_reducible repeat (first | apply Kd.R_alloc | apply Kd.R_drewN | apply Kd.R_drew)); exact HO_17.out))) (below_size (by repeat (first | (with_reducible first | exact HB.out | apply below_alloc | apply pw_below_drewN | apply below_drew1 | refine below_set ?_ GE234.out) | exact HB.out)))); have n7_ := Aside0.mk (blk_below (g := gb234) (o := .cells #[.int .i64 t235, .slice Ao23 t236.length co23, .slice Ao25 t239.length co25] 25 (0, 0)) (by (with_reducible repeat (first | refine blk_drewN ?_ _ | refine blk_drew ?_ | refine blk_alloc ?_ _)); exact BK234.out) hb); have n8_ := Aside0.mk (below_step (by repeat (first | (with_reducible first | exact HB.out | apply below_alloc | apply pw_below_drewN | apply below_drew1 | refine below_set ?_ GE234.out) | exact HB.out)) hb); clear HO_1; clear HO_2; clear HO_13; clear HO_17; clear HO_235001; clear HO_235002; clear BK234; clear HB; have HO_1 := n0_; have HO_2 := n1_; have HO_13 := n2_; have HO_17 := n3_; have HO_235001 := n4_; have HO_235002 := n5_; have HO264 := n6_; have BK234 := n7_; have HB := n8_; clear n0_ n1_ n2_ n3_ n4_ n5_ n6_ n7_ n8_; (try clear hb); (try clear hb2); (try clear hk); (try clear hi); (try clear ho0); obtain ⟨Ao64, co64, eo64⟩ := Kd.R_slice HO_13.out; subst eo64; obtain ⟨Ao65, co65, eo65⟩ := Kd.R_slice HO264.out; subst eo65) | (go_at_call 18; (with_reducible refine (footwayref06_Same.calls kj44 _ _ t248 _ _ t262 false _ ?side1 ?side2 ?side3 ?side4 A56.out).mono ?_); (case side1 => repeat (first | exact (Kd.R_reads' HO_13.out).2.2 | (with_reducible refine Kd.C_alloc ?_ _) | (with_reducible refine Kd.C_drewN ?_ _) | (with_reducible refine Kd.C_drew ?_))); (case side2 => exact (Kd.R_reads' HO_13.out).2.1); (case side3 => repeat (first | exact (Kd.R_reads' HO264.out).2.2 | (with_reducible refine Kd.C_alloc ?_ _) | (with_reducible refine Kd.C_drewN ?_ _) | (with_reducible refine Kd.C_drew ?_))); (case side4 => exact (Kd.R_reads' HO264.out).2.1); rintro e w' ⟨rfl, ⟨nd, rfl⟩⟩))
             go_ret
             exact ⟨by first | rfl | (simp [errW_none, errW_some] <;> rfl) | (simp only [← hji10]; first | rfl | (simp [errW_none, errW_some] <;> rfl)) | (simp [*, errW_none, errW_some] <;> rfl), by repeat (first | (with_reducible first | exact HB.out | apply below_alloc | apply pw_below_drewN | apply below_drew1 | refine below_set ?_ GE234.out) | exact HB.out)⟩
           ·rw [if_neg c54] at H
            have c54b0 : (t249 == 0) = false := beq_eq_false_iff_ne.mpr c54
            have c54b1 : (t249 != 0) = true := bne_iff_ne.mpr c54
            obtain rfl := Option.some.inj H
            go_wp2_with (first | ((with_reducible refine gate_callee (f := 17) rfl ?_); refine goesL_ (some 77) rfl rfl Try.func17 (by kernel_rfl) rfl #[.slice Ao27 t245.length co27, .int .i64 a4] rfl (by (try simp only [List.map_toArray, List.map_cons, List.map_nil]); first | done | rfl | (simp only [List.length_drop, List.length_take]; rfl)) ?_; (with_reducible refine (footwayref20_Segs.calls _ _ t245 a4 true _ ?side1 ?side2 A52.out).mono ?_); (case side1 => repeat (first | exact (Kd.R_reads' HO_2.out).2.2 | (with_reducible refine Kd.C_alloc ?_ _) | (with_reducible refine Kd.C_drewN ?_ _) | (with_reducible refine Kd.C_drew ?_))); (case side2 => exact (Kd.R_reads' HO_2.out).2.1); rintro e w66 ⟨rfl, hb⟩; refine ⟨_, rfl, ?_⟩; have n0_ := Aside0.mk (Kd.N_below (by (with_reducible repeat (first | apply Kd.N_alloc | apply Kd.N_drewN | apply Kd.N_drew)); exact HO_1.out) hb); have n1_ := Aside0.mk (Kd.R_below (by (with_reducible repeat (first | apply Kd.R_alloc | apply Kd.R_drewN | apply Kd.R_drew)); exact HO_2.out) hb); have n2_ := Aside0.mk (Kd.R_below (by (with_reducible repeat (first | apply Kd.R_alloc | apply Kd.R_drewN | apply Kd.R_drew)); exact HO_13.out) hb); have n3_ := Aside0.mk (Kd.R_below (by (with_reducible repeat (first | apply Kd.R_alloc | apply Kd.R_drewN | apply Kd.R_drew)); exact HO_17.out) hb); have n4_ := Aside0.mk (Kd.N_below (by (with_reducible repeat (first | apply Kd.N_alloc | apply Kd.N_drewN | apply Kd.N_drew)); exact HO_235001.out) hb); have n5_ := Aside0.mk (Kd.V_below (by (with_reducible repeat (first | apply Kd.V_alloc | apply Kd.V_drewN | apply Kd.V_drew)); exact HO_235002.out) hb); have n6_ := Aside0.mk (blk_below (g := gb234) (o := .cells #[.int .i64 t235, .slice Ao23 t236.length co23, .slice Ao25 t239.length co25] 25 (0, 0)) (by (with_reducible repeat (first | refine blk_drewN ?_ _ | refine blk_drew ?_ | refine blk_alloc ?_ _)); exact BK234.out) hb); have n7_ := Aside0.mk (below_step (by repeat (first | (with_reducible first | exact HB.out | apply below_alloc | apply pw_below_drewN | apply below_drew1 | refine below_set ?_ GE234.out) | exact HB.out)) hb); clear HO_1; clear HO_2; clear HO_13; clear HO_17; clear HO_235001; clear HO_235002; clear BK234; clear HB; have HO_1 := n0_; have HO_2 := n1_; have HO_13 := n2_; have HO_17 := n3_; have HO_235001 := n4_; have HO_235002 := n5_; have BK234 := n6_; have HB := n7_; clear n0_ n1_ n2_ n3_ n4_ n5_ n6_ n7_; (try clear hb); (try clear hb2); (try clear hk); (try clear hi)))
            go_ret
            exact ⟨by first | rfl | (simp [errW_none, errW_some] <;> rfl) | (simp only [← hji10]; first | rfl | (simp [errW_none, errW_some] <;> rfl)) | (simp [*, errW_none, errW_some] <;> rfl), by repeat (first | (with_reducible first | exact HB.out | apply below_alloc | apply pw_below_drewN | apply below_drew1 | refine below_set ?_ GE234.out) | exact HB.out)⟩
          ·replace c53 := Bool.eq_false_iff.mpr c53
           subst c53
           have H1 : (if t249 = 1 then (if (t248.length : Int) = 0 then (footwaylaw20_JudgeTells.j2 kj44 t242 t245 a5 t252 t253 t254 t257 t235 t236 t239) else (some false)) else (some false)) = some r := by rw [if_neg (show ¬ (false = true) by decide)] at H; exact H
           clear H
           have H := H1
           clear H1
           by_cases c67 : t249 = 1
           ·rw [if_pos c67] at H
            have c67b0 : (t249 == 1) = true := beq_iff_eq.mpr c67
            have c67b1 : (t249 != 1) = false := bne_eq_false_iff_eq.mpr c67
            clear c67
            by_cases c68 : (t248.length : Int) = 0
            ·rw [if_pos c68] at H
             have c68b0 : ((t248.length : Int) == 0) = true := beq_iff_eq.mpr c68
             have c68b1 : ((t248.length : Int) != 0) = false := bne_eq_false_iff_eq.mpr c68
             clear c68
             have H' := Aside0.mk H
             clear H
             go_wp2_with (first | ((with_reducible refine gate_callee (f := 17) rfl ?_); refine goesL_ (some 77) rfl rfl Try.func17 (by kernel_rfl) rfl #[.slice Ao27 t245.length co27, .int .i64 a4] rfl (by (try simp only [List.map_toArray, List.map_cons, List.map_nil]); first | done | rfl | (simp only [List.length_drop, List.length_take]; rfl)) ?_; (with_reducible refine (footwayref20_Segs.calls _ _ t245 a4 false _ ?side1 ?side2 A52.out).mono ?_); (case side1 => repeat (first | exact (Kd.R_reads' HO_2.out).2.2 | (with_reducible refine Kd.C_alloc ?_ _) | (with_reducible refine Kd.C_drewN ?_ _) | (with_reducible refine Kd.C_drew ?_))); (case side2 => exact (Kd.R_reads' HO_2.out).2.1); rintro e w69 ⟨rfl, hb⟩; refine ⟨_, rfl, ?_⟩; have n0_ := Aside0.mk (Kd.N_below (by (with_reducible repeat (first | apply Kd.N_alloc | apply Kd.N_drewN | apply Kd.N_drew)); exact HO_1.out) hb); have n1_ := Aside0.mk (Kd.R_below (by (with_reducible repeat (first | apply Kd.R_alloc | apply Kd.R_drewN | apply Kd.R_drew)); exact HO_2.out) hb); have n2_ := Aside0.mk (Kd.R_below (by (with_reducible repeat (first | apply Kd.R_alloc | apply Kd.R_drewN | apply Kd.R_drew)); exact HO_13.out) hb); have n3_ := Aside0.mk (Kd.R_below (by (with_reducible repeat (first | apply Kd.R_alloc | apply Kd.R_drewN | apply Kd.R_drew)); exact HO_17.out) hb); have n4_ := Aside0.mk (Kd.N_below (by (with_reducible repeat (first | apply Kd.N_alloc | apply Kd.N_drewN | apply Kd.N_drew)); exact HO_235001.out) hb); have n5_ := Aside0.mk (Kd.V_below (by (with_reducible repeat (first | apply Kd.V_alloc | apply Kd.V_drewN | apply Kd.V_drew)); exact HO_235002.out) hb); have n6_ := Aside0.mk (blk_below (g := gb234) (o := .cells #[.int .i64 t235, .slice Ao23 t236.length co23, .slice Ao25 t239.length co25] 25 (0, 0)) (by (with_reducible repeat (first | refine blk_drewN ?_ _ | refine blk_drew ?_ | refine blk_alloc ?_ _)); exact BK234.out) hb); have n7_ := Aside0.mk (below_step (by repeat (first | (with_reducible first | exact HB.out | apply below_alloc | apply pw_below_drewN | apply below_drew1 | refine below_set ?_ GE234.out) | exact HB.out)) hb); clear HO_1; clear HO_2; clear HO_13; clear HO_17; clear HO_235001; clear HO_235002; clear BK234; clear HB; have HO_1 := n0_; have HO_2 := n1_; have HO_13 := n2_; have HO_17 := n3_; have HO_235001 := n4_; have HO_235002 := n5_; have BK234 := n6_; have HB := n7_; clear n0_ n1_ n2_ n3_ n4_ n5_ n6_ n7_; (try clear hb); (try clear hb2); (try clear hk); (try clear hi); obtain ⟨Ao70, co70, eo70⟩ := Kd.R_slice HO_13.out; subst eo70))
             go_meet
             case rel => exact ⟨_, H', ⟨by have := HJ15.out; have := HJ44.out; first | omega | exact Nat.le_refl _⟩, ⟨by (with_reducible repeat (first | apply Kd.N_alloc | apply Kd.N_drewN | apply Kd.N_drew)); exact Kd.N_mono HO_1.out (fun _ hk => ⟨hk.1, ⟨hk.2.2.1, ⟨hk.2.2.2.1, hk.2.2.2.2⟩⟩⟩)⟩, ⟨by (with_reducible repeat (first | apply Kd.R_alloc | apply Kd.R_drewN | apply Kd.R_drew)); exact HO_2.out⟩, ⟨by (with_reducible repeat (first | apply Kd.R_alloc | apply Kd.R_drewN | apply Kd.R_drew)); exact Kd.R_mono HO_17.out (fun _ hk => trivial)⟩, ⟨by (with_reducible repeat (first | apply Kd.N_alloc | apply Kd.N_drewN | apply Kd.N_drew)); exact Kd.N_mono HO_235001.out (fun _ hk => ⟨hk.1, ⟨hk.2.1, ⟨hk.2.2.2.1, hk.2.2.2.2⟩⟩⟩)⟩, ⟨by (with_reducible repeat (first | apply Kd.V_alloc | apply Kd.V_drewN | apply Kd.V_drew)); exact Kd.V_mono HO_235002.out (fun _ hk => ⟨hk.1, ⟨hk.2.1, ⟨hk.2.2.2.1, ⟨hk.2.2.2.2.1, hk.2.2.2.2.2⟩⟩⟩⟩)⟩, ⟨by (with_reducible repeat (first | refine blk_drewN ?_ _ | refine blk_drew ?_ | refine blk_alloc ?_ _)); exact BK234.out⟩, ⟨by repeat (first | (with_reducible first | exact HB.out | apply below_alloc | apply pw_below_drewN | apply below_drew1 | refine below_set ?_ GE234.out) | exact HB.out)⟩⟩
            ·rw [if_neg c68] at H
             have c68b0 : ((t248.length : Int) == 0) = false := beq_eq_false_iff_ne.mpr c68
             have c68b1 : ((t248.length : Int) != 0) = true := bne_iff_ne.mpr c68
             have c68b2 : ¬ (t248 = []) := fun h_ => c68 (by rw [h_]; rfl)
             obtain rfl := Option.some.inj H
             go_wp2_with (first | ((with_reducible refine gate_callee (f := 17) rfl ?_); refine goesL_ (some 77) rfl rfl Try.func17 (by kernel_rfl) rfl #[.slice Ao27 t245.length co27, .int .i64 a4] rfl (by (try simp only [List.map_toArray, List.map_cons, List.map_nil]); first | done | rfl | (simp only [List.length_drop, List.length_take]; rfl)) ?_; (with_reducible refine (footwayref20_Segs.calls _ _ t245 a4 false _ ?side1 ?side2 A52.out).mono ?_); (case side1 => repeat (first | exact (Kd.R_reads' HO_2.out).2.2 | (with_reducible refine Kd.C_alloc ?_ _) | (with_reducible refine Kd.C_drewN ?_ _) | (with_reducible refine Kd.C_drew ?_))); (case side2 => exact (Kd.R_reads' HO_2.out).2.1); rintro e w71 ⟨rfl, hb⟩; refine ⟨_, rfl, ?_⟩; have n0_ := Aside0.mk (Kd.N_below (by (with_reducible repeat (first | apply Kd.N_alloc | apply Kd.N_drewN | apply Kd.N_drew)); exact HO_1.out) hb); have n1_ := Aside0.mk (Kd.R_below (by (with_reducible repeat (first | apply Kd.R_alloc | apply Kd.R_drewN | apply Kd.R_drew)); exact HO_2.out) hb); have n2_ := Aside0.mk (Kd.R_below (by (with_reducible repeat (first | apply Kd.R_alloc | apply Kd.R_drewN | apply Kd.R_drew)); exact HO_13.out) hb); have n3_ := Aside0.mk (Kd.R_below (by (with_reducible repeat (first | apply Kd.R_alloc | apply Kd.R_drewN | apply Kd.R_drew)); exact HO_17.out) hb); have n4_ := Aside0.mk (Kd.N_below (by (with_reducible repeat (first | apply Kd.N_alloc | apply Kd.N_drewN | apply Kd.N_drew)); exact HO_235001.out) hb); have n5_ := Aside0.mk (Kd.V_below (by (with_reducible repeat (first | apply Kd.V_alloc | apply Kd.V_drewN | apply Kd.V_drew)); exact HO_235002.out) hb); have n6_ := Aside0.mk (blk_below (g := gb234) (o := .cells #[.int .i64 t235, .slice Ao23 t236.length co23, .slice Ao25 t239.length co25] 25 (0, 0)) (by (with_reducible repeat (first | refine blk_drewN ?_ _ | refine blk_drew ?_ | refine blk_alloc ?_ _)); exact BK234.out) hb); have n7_ := Aside0.mk (below_step (by repeat (first | (with_reducible first | exact HB.out | apply below_alloc | apply pw_below_drewN | apply below_drew1 | refine below_set ?_ GE234.out) | exact HB.out)) hb); clear HO_1; clear HO_2; clear HO_13; clear HO_17; clear HO_235001; clear HO_235002; clear BK234; clear HB; have HO_1 := n0_; have HO_2 := n1_; have HO_13 := n2_; have HO_17 := n3_; have HO_235001 := n4_; have HO_235002 := n5_; have BK234 := n6_; have HB := n7_; clear n0_ n1_ n2_ n3_ n4_ n5_ n6_ n7_; (try clear hb); (try clear hb2); (try clear hk); (try clear hi); obtain ⟨Ao72, co72, eo72⟩ := Kd.R_slice HO_13.out; subst eo72))
             go_ret
             exact ⟨by first | rfl | (simp [errW_none, errW_some] <;> rfl) | (simp only [← hji10]; first | rfl | (simp [errW_none, errW_some] <;> rfl)) | (simp [*, errW_none, errW_some] <;> rfl), by repeat (first | (with_reducible first | exact HB.out | apply below_alloc | apply pw_below_drewN | apply below_drew1 | refine below_set ?_ GE234.out) | exact HB.out)⟩
           ·rw [if_neg c67] at H
            have c67b0 : (t249 == 1) = false := beq_eq_false_iff_ne.mpr c67
            have c67b1 : (t249 != 1) = true := bne_iff_ne.mpr c67
            obtain rfl := Option.some.inj H
            go_wp2_with (first | ((with_reducible refine gate_callee (f := 17) rfl ?_); refine goesL_ (some 77) rfl rfl Try.func17 (by kernel_rfl) rfl #[.slice Ao27 t245.length co27, .int .i64 a4] rfl (by (try simp only [List.map_toArray, List.map_cons, List.map_nil]); first | done | rfl | (simp only [List.length_drop, List.length_take]; rfl)) ?_; (with_reducible refine (footwayref20_Segs.calls _ _ t245 a4 false _ ?side1 ?side2 A52.out).mono ?_); (case side1 => repeat (first | exact (Kd.R_reads' HO_2.out).2.2 | (with_reducible refine Kd.C_alloc ?_ _) | (with_reducible refine Kd.C_drewN ?_ _) | (with_reducible refine Kd.C_drew ?_))); (case side2 => exact (Kd.R_reads' HO_2.out).2.1); rintro e w73 ⟨rfl, hb⟩; refine ⟨_, rfl, ?_⟩; have n0_ := Aside0.mk (Kd.N_below (by (with_reducible repeat (first | apply Kd.N_alloc | apply Kd.N_drewN | apply Kd.N_drew)); exact HO_1.out) hb); have n1_ := Aside0.mk (Kd.R_below (by (with_reducible repeat (first | apply Kd.R_alloc | apply Kd.R_drewN | apply Kd.R_drew)); exact HO_2.out) hb); have n2_ := Aside0.mk (Kd.R_below (by (with_reducible repeat (first | apply Kd.R_alloc | apply Kd.R_drewN | apply Kd.R_drew)); exact HO_13.out) hb); have n3_ := Aside0.mk (Kd.R_below (by (with_reducible repeat (first | apply Kd.R_alloc | apply Kd.R_drewN | apply Kd.R_drew)); exact HO_17.out) hb); have n4_ := Aside0.mk (Kd.N_below (by (with_reducible repeat (first | apply Kd.N_alloc | apply Kd.N_drewN | apply Kd.N_drew)); exact HO_235001.out) hb); have n5_ := Aside0.mk (Kd.V_below (by (with_reducible repeat (first | apply Kd.V_alloc | apply Kd.V_drewN | apply Kd.V_drew)); exact HO_235002.out) hb); have n6_ := Aside0.mk (blk_below (g := gb234) (o := .cells #[.int .i64 t235, .slice Ao23 t236.length co23, .slice Ao25 t239.length co25] 25 (0, 0)) (by (with_reducible repeat (first | refine blk_drewN ?_ _ | refine blk_drew ?_ | refine blk_alloc ?_ _)); exact BK234.out) hb); have n7_ := Aside0.mk (below_step (by repeat (first | (with_reducible first | exact HB.out | apply below_alloc | apply pw_below_drewN | apply below_drew1 | refine below_set ?_ GE234.out) | exact HB.out)) hb); clear HO_1; clear HO_2; clear HO_13; clear HO_17; clear HO_235001; clear HO_235002; clear BK234; clear HB; have HO_1 := n0_; have HO_2 := n1_; have HO_13 := n2_; have HO_17 := n3_; have HO_235001 := n4_; have HO_235002 := n5_; have BK234 := n6_; have HB := n7_; clear n0_ n1_ n2_ n3_ n4_ n5_ n6_ n7_; (try clear hb); (try clear hb2); (try clear hk); (try clear hi)))
            go_ret
            exact ⟨by first | rfl | (simp [errW_none, errW_some] <;> rfl) | (simp only [← hji10]; first | rfl | (simp [errW_none, errW_some] <;> rfl)) | (simp [*, errW_none, errW_some] <;> rfl), by repeat (first | (with_reducible first | exact HB.out | apply below_alloc | apply pw_below_drewN | apply below_drew1 | refine below_set ?_ GE234.out) | exact HB.out)⟩
      case rest =>
       clear HC44
       try clear c1
       try clear c2
       try clear p2
       try clear c3
       try clear c4
       try clear c5
       try clear c6
       try clear c8
       try clear c9
       try clear c10
       try clear c11
       try clear c11b0
       try clear c11b1
       try clear c12
       try clear c12b0
       try clear c12b1
       try clear c13
       try clear c14
       try clear c15
       try clear c17
       try clear c36
       try clear c36b0
       try clear c36b1
       try clear c43
       try clear c46
       try clear c46b0
       try clear c47
       try clear c48
       try clear c48b0
       try clear c48b1
       try clear c49
       try clear c49b0
       try clear c49b1
       try clear c49b2
       try clear c53
       try clear c54
       try clear c54b0
       try clear c54b1
       try clear c57
       try clear c67
       try clear c67b0
       try clear c67b1
       try clear c68
       try clear c68b0
       try clear c68b1
       try clear c68b2
       try clear hcz29_0
       try clear hcz29_1
       try clear hcz29_2
       try clear hcz32_0
       try clear hcz32_1
       try clear hcz32_2
       try clear hfz29_0
       try clear hfz29_1
       try clear hfz29_2
       try clear hfz32_0
       try clear hfz32_1
       try clear hfz32_2
       try clear p2
       obtain ⟨kq, HA, HJ43, HO_1, HO_2, HO_17, HO_235001, HO_235002, BK234, HB⟩ := hcut
       cases kq with
       | zero => exact absurd HA.out (by simp [footwaylaw20_JudgeTells.j2])
       | succ kj43 =>
        have H := HA.out
        clear HA
        simp only [footwaylaw20_JudgeTells.j2] at H
        have HC74 := Aside0.mk H
        clear H
        go_upto_region 15 with (fail)
        go_cut [108] (fun v108 wc => ∃ (kq : Nat) (x108_73 : Bool), v108 = .bool x108_73 ∧ Aside0 (footwaylaw20_JudgeTells.j3 kq t242 t245 a5 t252 t253 t254 t257 x108_73 t235 t236 t239 = some r) ∧ Aside0 (kq ≤ kj43) ∧ Aside0 (Kd.N (Kd.slice 4 Kd.bool) 67 wc w.heap.size (fun k_ => some k_ ≠ ((.slice Ao27 t245.length co27) : Value).ownBlock ∧ some k_ ≠ (v255 : Value).ownBlock ∧ some k_ ≠ ((.slice Ao23 t236.length co23) : Value).ownBlock ∧ k_ ≠ gb234) (.slice Ao30 t242.length co30) t242) ∧ Aside0 (Kd.R k80 80 wc w.heap.size (fun _ => True) (.slice Ao27 t245.length co27) t245) ∧ Aside0 (Kd.R (Kd.int .i64) 3 wc w.heap.size (fun _ => True) v255 t254) ∧ Aside0 (Kd.N k64 64 wc w.heap.size (fun k_ => some k_ ≠ ((.slice Ao30 t242.length co30) : Value).ownBlock ∧ some k_ ≠ ((.slice Ao27 t245.length co27) : Value).ownBlock ∧ some k_ ≠ (v255 : Value).ownBlock ∧ k_ ≠ gb234) (.slice Ao23 t236.length co23) t236) ∧ Aside0 (Kd.V k91 91 wc w.heap.size (fun k_ => some k_ ≠ ((.slice Ao30 t242.length co30) : Value).ownBlock ∧ some k_ ≠ ((.slice Ao27 t245.length co27) : Value).ownBlock ∧ some k_ ≠ (v255 : Value).ownBlock ∧ some k_ ≠ ((.slice Ao23 t236.length co23) : Value).ownBlock ∧ k_ ≠ gb234) (.slice Ao25 t239.length co25) t239) ∧ Aside0 (wc.heap[gb234]? = some (.cells #[.int .i64 t235, (.slice Ao23 t236.length co23), (.slice Ao25 t239.length co25)] 25 (0, 0))) ∧ Aside0 (Below w.heap.size w wc))
        case first =>
         have H := HC74.out
         clear HC74
         replace H := Option.bind_eq_some_iff.mp H
         obtain ⟨t266, A750, H⟩ := H
         replace H : (if t266 = true then ((footwayref20_Segs.f t245 t235).bind fun t267 => (footwaylaw20_JudgeTells.j3 kj43 t242 t245 a5 t252 t253 t254 t257 (!t267) t235 t236 t239)) else (footwaylaw20_JudgeTells.j3 kj43 t242 t245 a5 t252 t253 t254 t257 true t235 t236 t239)) = some r := H
         have A75 := Aside0.mk A750
         clear A750
         by_cases c76 : t266 = true
         ·subst c76
          have H1 : ((footwayref20_Segs.f t245 t235).bind fun t267 => (footwaylaw20_JudgeTells.j3 kj43 t242 t245 a5 t252 t253 t254 t257 (!t267) t235 t236 t239)) = some r := by rw [if_pos rfl] at H; exact H
          clear H
          have H := H1
          clear H1
          replace H := Option.bind_eq_some_iff.mp H
          obtain ⟨t267, A770, H⟩ := H
          replace H : (footwaylaw20_JudgeTells.j3 kj43 t242 t245 a5 t252 t253 t254 t257 (!t267) t235 t236 t239) = some r := H
          have A77 := Aside0.mk A770
          clear A770
          have H' := Aside0.mk H
          clear H
          have hcz78_0 : wc.cell? ⟨gb234, 0, none⟩ = some (.int .i64 t235) := (blk_cell BK234.out 0).trans rfl
          have hcz78_1 : wc.cell? ⟨gb234, 1, none⟩ = some (.slice Ao23 t236.length co23) := (blk_cell BK234.out 1).trans rfl
          have hcz78_2 : wc.cell? ⟨gb234, 2, none⟩ = some (.slice Ao25 t239.length co25) := (blk_cell BK234.out 2).trans rfl
          have hfz78_0 := blk_frozen BK234.out 0
          have hfz78_1 := blk_frozen BK234.out 1
          have hfz78_2 := blk_frozen BK234.out 2
          go_wp2_with (first | ((with_reducible refine gate_callee (f := 20) rfl ?_); refine goesL_ (some 100) rfl rfl Try.func20 (by kernel_rfl) rfl #[.agg #[.int .i64 t235, .slice Ao23 t236.length co23, .slice Ao25 t239.length co25], .slice Ao30 t242.length co30] rfl (by (try simp only [List.map_toArray, List.map_cons, List.map_nil]); first | done | rfl | (simp only [List.length_drop, List.length_take]; rfl)) ?_; (with_reducible refine (footwayref17_May.calls kj43 t235 _ _ t236 _ _ t239 _ _ t242 true _ ?side1 ?side2 ?side3 ?side4 ?side5 ?side6 A75.out).mono ?_); (case side1 => repeat (first | exact (Kd.N_reads' HO_235001.out).2.2 | (with_reducible refine Kd.C_alloc ?_ _) | (with_reducible refine Kd.C_drewN ?_ _) | (with_reducible refine Kd.C_drew ?_))); (case side2 => exact (Kd.N_reads' HO_235001.out).2.1); (case side3 => repeat (first | exact (Kd.V_reads' HO_235002.out).2.2 | (with_reducible refine Kd.C_alloc ?_ _) | (with_reducible refine Kd.C_drewN ?_ _) | (with_reducible refine Kd.C_drew ?_))); (case side4 => exact (Kd.V_reads' HO_235002.out).2.1); (case side5 => repeat (first | exact (Kd.N_reads' HO_1.out).2.2 | (with_reducible refine Kd.C_alloc ?_ _) | (with_reducible refine Kd.C_drewN ?_ _) | (with_reducible refine Kd.C_drew ?_))); (case side6 => exact (Kd.N_reads' HO_1.out).2.1); rintro e w79 ⟨rfl, hb⟩; refine ⟨_, rfl, ?_⟩; have n0_ := Aside0.mk (Kd.N_below (by (with_reducible repeat (first | apply Kd.N_alloc | apply Kd.N_drewN | apply Kd.N_drew)); exact HO_1.out) hb); have n1_ := Aside0.mk (Kd.R_below (by (with_reducible repeat (first | apply Kd.R_alloc | apply Kd.R_drewN | apply Kd.R_drew)); exact HO_2.out) hb); have n2_ := Aside0.mk (Kd.R_below (by (with_reducible repeat (first | apply Kd.R_alloc | apply Kd.R_drewN | apply Kd.R_drew)); exact HO_17.out) hb); have n3_ := Aside0.mk (Kd.N_below (by (with_reducible repeat (first | apply Kd.N_alloc | apply Kd.N_drewN | apply Kd.N_drew)); exact HO_235001.out) hb); have n4_ := Aside0.mk (Kd.V_below (by (with_reducible repeat (first | apply Kd.V_alloc | apply Kd.V_drewN | apply Kd.V_drew)); exact HO_235002.out) hb); have n5_ := Aside0.mk (blk_below (g := gb234) (o := .cells #[.int .i64 t235, .slice Ao23 t236.length co23, .slice Ao25 t239.length co25] 25 (0, 0)) (by (with_reducible repeat (first | refine blk_drewN ?_ _ | refine blk_drew ?_ | refine blk_alloc ?_ _)); exact BK234.out) hb); have n6_ := Aside0.mk (below_step (by repeat (first | (with_reducible first | exact HB.out | apply below_alloc | apply pw_below_drewN | apply below_drew1 | refine below_set ?_ GE234.out) | exact HB.out)) hb); clear HO_1; clear HO_2; clear HO_17; clear HO_235001; clear HO_235002; clear BK234; clear HB; have HO_1 := n0_; have HO_2 := n1_; have HO_17 := n2_; have HO_235001 := n3_; have HO_235002 := n4_; have BK234 := n5_; have HB := n6_; clear n0_ n1_ n2_ n3_ n4_ n5_ n6_; (try clear hb); (try clear hb2); (try clear hk); (try clear hi); have hcz80_0 : w79.cell? ⟨gb234, 0, none⟩ = some (.int .i64 t235) := (blk_cell BK234.out 0).trans rfl; have hcz80_1 : w79.cell? ⟨gb234, 1, none⟩ = some (.slice Ao23 t236.length co23) := (blk_cell BK234.out 1).trans rfl; have hcz80_2 : w79.cell? ⟨gb234, 2, none⟩ = some (.slice Ao25 t239.length co25) := (blk_cell BK234.out 2).trans rfl; have hfz80_0 := blk_frozen BK234.out 0; have hfz80_1 := blk_frozen BK234.out 1; have hfz80_2 := blk_frozen BK234.out 2) | (go_at_call 17; (with_reducible refine (footwayref20_Segs.calls _ _ t245 t235 t267 _ ?side1 ?side2 A77.out).mono ?_); (case side1 => repeat (first | exact (Kd.R_reads' HO_2.out).2.2 | (with_reducible refine Kd.C_alloc ?_ _) | (with_reducible refine Kd.C_drewN ?_ _) | (with_reducible refine Kd.C_drew ?_))); (case side2 => exact (Kd.R_reads' HO_2.out).2.1); rintro e w81 ⟨rfl, hb⟩; have n0_ := Aside0.mk (Kd.N_below (by (with_reducible repeat (first | apply Kd.N_alloc | apply Kd.N_drewN | apply Kd.N_drew)); exact HO_1.out) hb); have n1_ := Aside0.mk (Kd.R_below (by (with_reducible repeat (first | apply Kd.R_alloc | apply Kd.R_drewN | apply Kd.R_drew)); exact HO_2.out) hb); have n2_ := Aside0.mk (Kd.R_below (by (with_reducible repeat (first | apply Kd.R_alloc | apply Kd.R_drewN | apply Kd.R_drew)); exact HO_17.out) hb); have n3_ := Aside0.mk (Kd.N_below (by (with_reducible repeat (first | apply Kd.N_alloc | apply Kd.N_drewN | apply Kd.N_drew)); exact HO_235001.out) hb); have n4_ := Aside0.mk (Kd.V_below (by (with_reducible repeat (first | apply Kd.V_alloc | apply Kd.V_drewN | apply Kd.V_drew)); exact HO_235002.out) hb); have n5_ := Aside0.mk (blk_below (g := gb234) (o := .cells #[.int .i64 t235, .slice Ao23 t236.length co23, .slice Ao25 t239.length co25] 25 (0, 0)) (by (with_reducible repeat (first | refine blk_drewN ?_ _ | refine blk_drew ?_ | refine blk_alloc ?_ _)); exact BK234.out) hb); have n6_ := Aside0.mk (below_step (by repeat (first | (with_reducible first | exact HB.out | apply below_alloc | apply pw_below_drewN | apply below_drew1 | refine below_set ?_ GE234.out) | exact HB.out)) hb); clear HO_1; clear HO_2; clear HO_17; clear HO_235001; clear HO_235002; clear BK234; clear HB; have HO_1 := n0_; have HO_2 := n1_; have HO_17 := n2_; have HO_235001 := n3_; have HO_235002 := n4_; have BK234 := n5_; have HB := n6_; clear n0_ n1_ n2_ n3_ n4_ n5_ n6_; (try clear hb); (try clear hb2); (try clear hk); (try clear hi)))
          go_meet
          case rel => exact ⟨_, (!t267), (by first | rfl | (simp; done) | (simp [*]; done)), H', ⟨by have := HJ15.out; have := HJ43.out; first | omega | exact Nat.le_refl _⟩, ⟨by (with_reducible repeat (first | apply Kd.N_alloc | apply Kd.N_drewN | apply Kd.N_drew)); exact HO_1.out⟩, ⟨by (with_reducible repeat (first | apply Kd.R_alloc | apply Kd.R_drewN | apply Kd.R_drew)); exact HO_2.out⟩, ⟨by (with_reducible repeat (first | apply Kd.R_alloc | apply Kd.R_drewN | apply Kd.R_drew)); exact HO_17.out⟩, ⟨by (with_reducible repeat (first | apply Kd.N_alloc | apply Kd.N_drewN | apply Kd.N_drew)); exact HO_235001.out⟩, ⟨by (with_reducible repeat (first | apply Kd.V_alloc | apply Kd.V_drewN | apply Kd.V_drew)); exact HO_235002.out⟩, ⟨by (with_reducible repeat (first | refine blk_drewN ?_ _ | refine blk_drew ?_ | refine blk_alloc ?_ _)); exact BK234.out⟩, ⟨by repeat (first | (with_reducible first | exact HB.out | apply below_alloc | apply pw_below_drewN | apply below_drew1 | refine below_set ?_ GE234.out) | exact HB.out)⟩⟩
         ·replace c76 := Bool.eq_false_iff.mpr c76
          subst c76
          have H1 : (footwaylaw20_JudgeTells.j3 kj43 t242 t245 a5 t252 t253 t254 t257 true t235 t236 t239) = some r := by rw [if_neg (show ¬ (false = true) by decide)] at H; exact H
          clear H
          have H := H1
          clear H1
          have H' := Aside0.mk H
          clear H
          have hcz82_0 : wc.cell? ⟨gb234, 0, none⟩ = some (.int .i64 t235) := (blk_cell BK234.out 0).trans rfl
          have hcz82_1 : wc.cell? ⟨gb234, 1, none⟩ = some (.slice Ao23 t236.length co23) := (blk_cell BK234.out 1).trans rfl
          have hcz82_2 : wc.cell? ⟨gb234, 2, none⟩ = some (.slice Ao25 t239.length co25) := (blk_cell BK234.out 2).trans rfl
          have hfz82_0 := blk_frozen BK234.out 0
          have hfz82_1 := blk_frozen BK234.out 1
          have hfz82_2 := blk_frozen BK234.out 2
          go_wp2_with (first | ((with_reducible refine gate_callee (f := 20) rfl ?_); refine goesL_ (some 100) rfl rfl Try.func20 (by kernel_rfl) rfl #[.agg #[.int .i64 t235, .slice Ao23 t236.length co23, .slice Ao25 t239.length co25], .slice Ao30 t242.length co30] rfl (by (try simp only [List.map_toArray, List.map_cons, List.map_nil]); first | done | rfl | (simp only [List.length_drop, List.length_take]; rfl)) ?_; (with_reducible refine (footwayref17_May.calls kj43 t235 _ _ t236 _ _ t239 _ _ t242 false _ ?side1 ?side2 ?side3 ?side4 ?side5 ?side6 A75.out).mono ?_); (case side1 => repeat (first | exact (Kd.N_reads' HO_235001.out).2.2 | (with_reducible refine Kd.C_alloc ?_ _) | (with_reducible refine Kd.C_drewN ?_ _) | (with_reducible refine Kd.C_drew ?_))); (case side2 => exact (Kd.N_reads' HO_235001.out).2.1); (case side3 => repeat (first | exact (Kd.V_reads' HO_235002.out).2.2 | (with_reducible refine Kd.C_alloc ?_ _) | (with_reducible refine Kd.C_drewN ?_ _) | (with_reducible refine Kd.C_drew ?_))); (case side4 => exact (Kd.V_reads' HO_235002.out).2.1); (case side5 => repeat (first | exact (Kd.N_reads' HO_1.out).2.2 | (with_reducible refine Kd.C_alloc ?_ _) | (with_reducible refine Kd.C_drewN ?_ _) | (with_reducible refine Kd.C_drew ?_))); (case side6 => exact (Kd.N_reads' HO_1.out).2.1); rintro e w83 ⟨rfl, hb⟩; refine ⟨_, rfl, ?_⟩; have n0_ := Aside0.mk (Kd.N_below (by (with_reducible repeat (first | apply Kd.N_alloc | apply Kd.N_drewN | apply Kd.N_drew)); exact HO_1.out) hb); have n1_ := Aside0.mk (Kd.R_below (by (with_reducible repeat (first | apply Kd.R_alloc | apply Kd.R_drewN | apply Kd.R_drew)); exact HO_2.out) hb); have n2_ := Aside0.mk (Kd.R_below (by (with_reducible repeat (first | apply Kd.R_alloc | apply Kd.R_drewN | apply Kd.R_drew)); exact HO_17.out) hb); have n3_ := Aside0.mk (Kd.N_below (by (with_reducible repeat (first | apply Kd.N_alloc | apply Kd.N_drewN | apply Kd.N_drew)); exact HO_235001.out) hb); have n4_ := Aside0.mk (Kd.V_below (by (with_reducible repeat (first | apply Kd.V_alloc | apply Kd.V_drewN | apply Kd.V_drew)); exact HO_235002.out) hb); have n5_ := Aside0.mk (blk_below (g := gb234) (o := .cells #[.int .i64 t235, .slice Ao23 t236.length co23, .slice Ao25 t239.length co25] 25 (0, 0)) (by (with_reducible repeat (first | refine blk_drewN ?_ _ | refine blk_drew ?_ | refine blk_alloc ?_ _)); exact BK234.out) hb); have n6_ := Aside0.mk (below_step (by repeat (first | (with_reducible first | exact HB.out | apply below_alloc | apply pw_below_drewN | apply below_drew1 | refine below_set ?_ GE234.out) | exact HB.out)) hb); clear HO_1; clear HO_2; clear HO_17; clear HO_235001; clear HO_235002; clear BK234; clear HB; have HO_1 := n0_; have HO_2 := n1_; have HO_17 := n2_; have HO_235001 := n3_; have HO_235002 := n4_; have BK234 := n5_; have HB := n6_; clear n0_ n1_ n2_ n3_ n4_ n5_ n6_; (try clear hb); (try clear hb2); (try clear hk); (try clear hi)))
          go_meet
          case rel => exact ⟨_, (true), (by first | rfl | (simp; done) | (simp [*]; done)), H', ⟨by have := HJ15.out; have := HJ43.out; first | omega | exact Nat.le_refl _⟩, ⟨by (with_reducible repeat (first | apply Kd.N_alloc | apply Kd.N_drewN | apply Kd.N_drew)); exact HO_1.out⟩, ⟨by (with_reducible repeat (first | apply Kd.R_alloc | apply Kd.R_drewN | apply Kd.R_drew)); exact HO_2.out⟩, ⟨by (with_reducible repeat (first | apply Kd.R_alloc | apply Kd.R_drewN | apply Kd.R_drew)); exact HO_17.out⟩, ⟨by (with_reducible repeat (first | apply Kd.N_alloc | apply Kd.N_drewN | apply Kd.N_drew)); exact HO_235001.out⟩, ⟨by (with_reducible repeat (first | apply Kd.V_alloc | apply Kd.V_drewN | apply Kd.V_drew)); exact HO_235002.out⟩, ⟨by (with_reducible repeat (first | refine blk_drewN ?_ _ | refine blk_drew ?_ | refine blk_alloc ?_ _)); exact BK234.out⟩, ⟨by repeat (first | (with_reducible first | exact HB.out | apply below_alloc | apply pw_below_drewN | apply below_drew1 | refine below_set ?_ GE234.out) | exact HB.out)⟩⟩
        case rest =>
         clear HC74
         try clear c1
         try clear c2
         try clear p2
         try clear c3
         try clear c4
         try clear c5
         try clear c6
         try clear c7
         try clear c8
         try clear c9
         try clear c10
         try clear c11
         try clear c11b0
         try clear c11b1
         try clear c12
         try clear c12b0
         try clear c12b1
         try clear c13
         try clear c14
         try clear c15
         try clear c17
         try clear c20
         try clear c36
         try clear c36b0
         try clear c36b1
         try clear c43
         try clear c46
         try clear c46b0
         try clear c47
         try clear c48
         try clear c48b0
         try clear c48b1
         try clear c49
         try clear c49b0
         try clear c49b1
         try clear c49b2
         try clear c53
         try clear c54
         try clear c54b0
         try clear c54b1
         try clear c57
         try clear c67
         try clear c67b0
         try clear c67b1
         try clear c68
         try clear c68b0
         try clear c68b1
         try clear c68b2
         try clear c76
         try clear hcz29_0
         try clear hcz29_1
         try clear hcz29_2
         try clear hcz32_0
         try clear hcz32_1
         try clear hcz32_2
         try clear hcz78_0
         try clear hcz78_1
         try clear hcz78_2
         try clear hcz80_0
         try clear hcz80_1
         try clear hcz80_2
         try clear hcz82_0
         try clear hcz82_1
         try clear hcz82_2
         try clear hfz29_0
         try clear hfz29_1
         try clear hfz29_2
         try clear hfz32_0
         try clear hfz32_1
         try clear hfz32_2
         try clear hfz78_0
         try clear hfz78_1
         try clear hfz78_2
         try clear hfz80_0
         try clear hfz80_1
         try clear hfz80_2
         try clear hfz82_0
         try clear hfz82_1
         try clear hfz82_2
         try clear p2
         obtain ⟨kq, x108_73, rfl, HA, HJ73, HO_1, HO_2, HO_17, HO_235001, HO_235002, BK234, HB⟩ := hcut
         cases kq with
         | zero => exact absurd HA.out (by simp [footwaylaw20_JudgeTells.j3])
         | succ kj73 =>
          have H := HA.out
          clear HA
          simp only [footwaylaw20_JudgeTells.j3] at H
          have HC84 := Aside0.mk H
          clear H
          go_upto_if 108 with (fail)
          go_cut [] (fun wc => ∃ (kq : Nat), Aside0 (footwaylaw20_JudgeTells.j4 kq t245 a5 t254 t257 t235 t236 t239 = some r) ∧ Aside0 (kq ≤ kj73) ∧ Aside0 (Kd.R k80 80 wc w.heap.size (fun _ => True) (.slice Ao27 t245.length co27) t245) ∧ Aside0 (Kd.R (Kd.int .i64) 3 wc w.heap.size (fun _ => True) v255 t254) ∧ Aside0 (Kd.N k64 64 wc w.heap.size (fun k_ => some k_ ≠ ((.slice Ao27 t245.length co27) : Value).ownBlock ∧ some k_ ≠ (v255 : Value).ownBlock ∧ k_ ≠ gb234) (.slice Ao23 t236.length co23) t236) ∧ Aside0 (Kd.V k91 91 wc w.heap.size (fun k_ => some k_ ≠ ((.slice Ao27 t245.length co27) : Value).ownBlock ∧ some k_ ≠ (v255 : Value).ownBlock ∧ some k_ ≠ ((.slice Ao23 t236.length co23) : Value).ownBlock ∧ k_ ≠ gb234) (.slice Ao25 t239.length co25) t239) ∧ Aside0 (wc.heap[gb234]? = some (.cells #[.int .i64 t235, (.slice Ao23 t236.length co23), (.slice Ao25 t239.length co25)] 25 (0, 0))) ∧ Aside0 (Below w.heap.size w wc))
          case first =>
           have H := HC84.out
           clear HC84
           by_cases c85 : x108_73 = true
           ·subst c85
            have H1 : (if t253 = 1 then (if t252 = 0 then (footwaylaw20_JudgeTells.j4 kj73 t245 a5 t254 t257 t235 t236 t239) else (some false)) else (some false)) = some r := by rw [if_pos rfl] at H; exact H
            clear H
            have H := H1
            clear H1
            by_cases c86 : t253 = 1
            ·rw [if_pos c86] at H
             have c86b0 : (t253 == 1) = true := beq_iff_eq.mpr c86
             have c86b1 : (t253 != 1) = false := bne_eq_false_iff_eq.mpr c86
             clear c86
             (first | rw [c86b0] | (simp only [i64_w, i32_w]; rw [c86b0]) | skip)
             by_cases c87 : t252 = 0
             ·rw [if_pos c87] at H
              have c87b0 : (t252 == 0) = true := beq_iff_eq.mpr c87
              have c87b1 : (t252 != 0) = false := bne_eq_false_iff_eq.mpr c87
              clear c87
              have H' := Aside0.mk H
              clear H
              go_wp2
              go_meet
              case rel => exact ⟨_, H', ⟨by have := HJ15.out; have := HJ43.out; have := HJ73.out; first | omega | exact Nat.le_refl _⟩, ⟨by (with_reducible repeat (first | apply Kd.R_alloc | apply Kd.R_drewN | apply Kd.R_drew)); exact HO_2.out⟩, ⟨by (with_reducible repeat (first | apply Kd.R_alloc | apply Kd.R_drewN | apply Kd.R_drew)); exact HO_17.out⟩, ⟨by (with_reducible repeat (first | apply Kd.N_alloc | apply Kd.N_drewN | apply Kd.N_drew)); exact Kd.N_mono HO_235001.out (fun _ hk => ⟨hk.2.1, ⟨hk.2.2.1, hk.2.2.2⟩⟩)⟩, ⟨by (with_reducible repeat (first | apply Kd.V_alloc | apply Kd.V_drewN | apply Kd.V_drew)); exact Kd.V_mono HO_235002.out (fun _ hk => ⟨hk.2.1, ⟨hk.2.2.1, ⟨hk.2.2.2.1, hk.2.2.2.2⟩⟩⟩)⟩, ⟨by (with_reducible repeat (first | refine blk_drewN ?_ _ | refine blk_drew ?_ | refine blk_alloc ?_ _)); exact BK234.out⟩, ⟨by repeat (first | (with_reducible first | exact HB.out | apply below_alloc | apply pw_below_drewN | apply below_drew1 | refine below_set ?_ GE234.out) | exact HB.out)⟩⟩
             ·rw [if_neg c87] at H
              have c87b0 : (t252 == 0) = false := beq_eq_false_iff_ne.mpr c87
              have c87b1 : (t252 != 0) = true := bne_iff_ne.mpr c87
              obtain rfl := Option.some.inj H
              go_wp2
              go_ret
              exact ⟨by first | rfl | (simp [errW_none, errW_some] <;> rfl) | (simp only [← hji10]; first | rfl | (simp [errW_none, errW_some] <;> rfl)) | (simp [*, errW_none, errW_some] <;> rfl), by repeat (first | (with_reducible first | exact HB.out | apply below_alloc | apply pw_below_drewN | apply below_drew1 | refine below_set ?_ GE234.out) | exact HB.out)⟩
            ·rw [if_neg c86] at H
             have c86b0 : (t253 == 1) = false := beq_eq_false_iff_ne.mpr c86
             have c86b1 : (t253 != 1) = true := bne_iff_ne.mpr c86
             (first | rw [c86b0] | (simp only [i64_w, i32_w]; rw [c86b0]) | skip)
             obtain rfl := Option.some.inj H
             go_wp2
             go_ret
             exact ⟨by first | rfl | (simp [errW_none, errW_some] <;> rfl) | (simp only [← hji10]; first | rfl | (simp [errW_none, errW_some] <;> rfl)) | (simp [*, errW_none, errW_some] <;> rfl), by repeat (first | (with_reducible first | exact HB.out | apply below_alloc | apply pw_below_drewN | apply below_drew1 | refine below_set ?_ GE234.out) | exact HB.out)⟩
           ·replace c85 := Bool.eq_false_iff.mpr c85
            subst c85
            have H1 : (if t253 = 0 then ((footwayref20_Stray.f kj73 t235 t236 t239 t242 t245).bind fun t268 => (if t252 = t268 then (footwaylaw20_JudgeTells.j4 kj73 t245 a5 t254 t257 t235 t236 t239) else (some false))) else (some false)) = some r := by rw [if_neg (show ¬ (false = true) by decide)] at H; exact H
            clear H
            have H := H1
            clear H1
            by_cases c88 : t253 = 0
            ·rw [if_pos c88] at H
             have c88b0 : (t253 == 0) = true := beq_iff_eq.mpr c88
             have c88b1 : (t253 != 0) = false := bne_eq_false_iff_eq.mpr c88
             clear c88
             replace H := Option.bind_eq_some_iff.mp H
             obtain ⟨t268, A890, H⟩ := H
             replace H : (if t252 = t268 then (footwaylaw20_JudgeTells.j4 kj73 t245 a5 t254 t257 t235 t236 t239) else (some false)) = some r := H
             have A89 := Aside0.mk A890
             clear A890
             by_cases c90 : t252 = t268
             ·rw [if_pos c90] at H
              have c90b0 : (t252 == t268) = true := beq_iff_eq.mpr c90
              have c90b1 : (t252 != t268) = false := bne_eq_false_iff_eq.mpr c90
              clear c90
              have H' := Aside0.mk H
              clear H
              have hcz91_0 : wc.cell? ⟨gb234, 0, none⟩ = some (.int .i64 t235) := (blk_cell BK234.out 0).trans rfl
              have hcz91_1 : wc.cell? ⟨gb234, 1, none⟩ = some (.slice Ao23 t236.length co23) := (blk_cell BK234.out 1).trans rfl
              have hcz91_2 : wc.cell? ⟨gb234, 2, none⟩ = some (.slice Ao25 t239.length co25) := (blk_cell BK234.out 2).trans rfl
              have hfz91_0 := blk_frozen BK234.out 0
              have hfz91_1 := blk_frozen BK234.out 1
              have hfz91_2 := blk_frozen BK234.out 2
              go_wp2_with (first | (go_at_call 21; (with_reducible refine (footwayref20_Stray.calls kj73 t235 _ _ t236 _ _ t239 _ _ t242 _ _ t245 t268 _ ?side1 ?side2 ?side3 ?side4 ?side5 ?side6 ?side7 ?side8 A89.out).mono ?_); (case side1 => repeat (first | exact (Kd.N_reads' HO_235001.out).2.2 | (with_reducible refine Kd.C_alloc ?_ _) | (with_reducible refine Kd.C_drewN ?_ _) | (with_reducible refine Kd.C_drew ?_))); (case side2 => exact (Kd.N_reads' HO_235001.out).2.1); (case side3 => repeat (first | exact (Kd.V_reads' HO_235002.out).2.2 | (with_reducible refine Kd.C_alloc ?_ _) | (with_reducible refine Kd.C_drewN ?_ _) | (with_reducible refine Kd.C_drew ?_))); (case side4 => exact (Kd.V_reads' HO_235002.out).2.1); (case side5 => repeat (first | exact (Kd.N_reads' HO_1.out).2.2 | (with_reducible refine Kd.C_alloc ?_ _) | (with_reducible refine Kd.C_drewN ?_ _) | (with_reducible refine Kd.C_drew ?_))); (case side6 => exact (Kd.N_reads' HO_1.out).2.1); (case side7 => repeat (first | exact (Kd.R_reads' HO_2.out).2.2 | (with_reducible refine Kd.C_alloc ?_ _) | (with_reducible refine Kd.C_drewN ?_ _) | (with_reducible refine Kd.C_drew ?_))); (case side8 => exact (Kd.R_reads' HO_2.out).2.1); rintro e w92 ⟨rfl, hb⟩; have n0_ := Aside0.mk (Kd.N_below (by (with_reducible repeat (first | apply Kd.N_alloc | apply Kd.N_drewN | apply Kd.N_drew)); exact HO_1.out) hb); have n1_ := Aside0.mk (Kd.R_below (by (with_reducible repeat (first | apply Kd.R_alloc | apply Kd.R_drewN | apply Kd.R_drew)); exact HO_2.out) hb); have n2_ := Aside0.mk (Kd.R_below (by (with_reducible repeat (first | apply Kd.R_alloc | apply Kd.R_drewN | apply Kd.R_drew)); exact HO_17.out) hb); have n3_ := Aside0.mk (Kd.N_below (by (with_reducible repeat (first | apply Kd.N_alloc | apply Kd.N_drewN | apply Kd.N_drew)); exact HO_235001.out) hb); have n4_ := Aside0.mk (Kd.V_below (by (with_reducible repeat (first | apply Kd.V_alloc | apply Kd.V_drewN | apply Kd.V_drew)); exact HO_235002.out) hb); have n5_ := Aside0.mk (blk_below (g := gb234) (o := .cells #[.int .i64 t235, .slice Ao23 t236.length co23, .slice Ao25 t239.length co25] 25 (0, 0)) (by (with_reducible repeat (first | refine blk_drewN ?_ _ | refine blk_drew ?_ | refine blk_alloc ?_ _)); exact BK234.out) hb); have n6_ := Aside0.mk (below_step (by repeat (first | (with_reducible first | exact HB.out | apply below_alloc | apply pw_below_drewN | apply below_drew1 | refine below_set ?_ GE234.out) | exact HB.out)) hb); clear HO_1; clear HO_2; clear HO_17; clear HO_235001; clear HO_235002; clear BK234; clear HB; have HO_1 := n0_; have HO_2 := n1_; have HO_17 := n2_; have HO_235001 := n3_; have HO_235002 := n4_; have BK234 := n5_; have HB := n6_; clear n0_ n1_ n2_ n3_ n4_ n5_ n6_; (try clear hb); (try clear hb2); (try clear hk); (try clear hi)))
              go_meet
              case rel => exact ⟨_, H', ⟨by have := HJ15.out; have := HJ43.out; have := HJ73.out; first | omega | exact Nat.le_refl _⟩, ⟨by (with_reducible repeat (first | apply Kd.R_alloc | apply Kd.R_drewN | apply Kd.R_drew)); exact HO_2.out⟩, ⟨by (with_reducible repeat (first | apply Kd.R_alloc | apply Kd.R_drewN | apply Kd.R_drew)); exact HO_17.out⟩, ⟨by (with_reducible repeat (first | apply Kd.N_alloc | apply Kd.N_drewN | apply Kd.N_drew)); exact Kd.N_mono HO_235001.out (fun _ hk => ⟨hk.2.1, ⟨hk.2.2.1, hk.2.2.2⟩⟩)⟩, ⟨by (with_reducible repeat (first | apply Kd.V_alloc | apply Kd.V_drewN | apply Kd.V_drew)); exact Kd.V_mono HO_235002.out (fun _ hk => ⟨hk.2.1, ⟨hk.2.2.1, ⟨hk.2.2.2.1, hk.2.2.2.2⟩⟩⟩)⟩, ⟨by (with_reducible repeat (first | refine blk_drewN ?_ _ | refine blk_drew ?_ | refine blk_alloc ?_ _)); exact BK234.out⟩, ⟨by repeat (first | (with_reducible first | exact HB.out | apply below_alloc | apply pw_below_drewN | apply below_drew1 | refine below_set ?_ GE234.out) | exact HB.out)⟩⟩
             ·rw [if_neg c90] at H
              have c90b0 : (t252 == t268) = false := beq_eq_false_iff_ne.mpr c90
              have c90b1 : (t252 != t268) = true := bne_iff_ne.mpr c90
              obtain rfl := Option.some.inj H
              have hcz93_0 : wc.cell? ⟨gb234, 0, none⟩ = some (.int .i64 t235) := (blk_cell BK234.out 0).trans rfl
              have hcz93_1 : wc.cell? ⟨gb234, 1, none⟩ = some (.slice Ao23 t236.length co23) := (blk_cell BK234.out 1).trans rfl
              have hcz93_2 : wc.cell? ⟨gb234, 2, none⟩ = some (.slice Ao25 t239.length co25) := (blk_cell BK234.out 2).trans rfl
              have hfz93_0 := blk_frozen BK234.out 0
              have hfz93_1 := blk_frozen BK234.out 1
              have hfz93_2 := blk_frozen BK234.out 2
              go_wp2_with (first | (go_at_call 21; (with_reducible refine (footwayref20_Stray.calls kj73 t235 _ _ t236 _ _ t239 _ _ t242 _ _ t245 t268 _ ?side1 ?side2 ?side3 ?side4 ?side5 ?side6 ?side7 ?side8 A89.out).mono ?_); (case side1 => repeat (first | exact (Kd.N_reads' HO_235001.out).2.2 | (with_reducible refine Kd.C_alloc ?_ _) | (with_reducible refine Kd.C_drewN ?_ _) | (with_reducible refine Kd.C_drew ?_))); (case side2 => exact (Kd.N_reads' HO_235001.out).2.1); (case side3 => repeat (first | exact (Kd.V_reads' HO_235002.out).2.2 | (with_reducible refine Kd.C_alloc ?_ _) | (with_reducible refine Kd.C_drewN ?_ _) | (with_reducible refine Kd.C_drew ?_))); (case side4 => exact (Kd.V_reads' HO_235002.out).2.1); (case side5 => repeat (first | exact (Kd.N_reads' HO_1.out).2.2 | (with_reducible refine Kd.C_alloc ?_ _) | (with_reducible refine Kd.C_drewN ?_ _) | (with_reducible refine Kd.C_drew ?_))); (case side6 => exact (Kd.N_reads' HO_1.out).2.1); (case side7 => repeat (first | exact (Kd.R_reads' HO_2.out).2.2 | (with_reducible refine Kd.C_alloc ?_ _) | (with_reducible refine Kd.C_drewN ?_ _) | (with_reducible refine Kd.C_drew ?_))); (case side8 => exact (Kd.R_reads' HO_2.out).2.1); rintro e w94 ⟨rfl, hb⟩; have n0_ := Aside0.mk (Kd.N_below (by (with_reducible repeat (first | apply Kd.N_alloc | apply Kd.N_drewN | apply Kd.N_drew)); exact HO_1.out) hb); have n1_ := Aside0.mk (Kd.R_below (by (with_reducible repeat (first | apply Kd.R_alloc | apply Kd.R_drewN | apply Kd.R_drew)); exact HO_2.out) hb); have n2_ := Aside0.mk (Kd.R_below (by (with_reducible repeat (first | apply Kd.R_alloc | apply Kd.R_drewN | apply Kd.R_drew)); exact HO_17.out) hb); have n3_ := Aside0.mk (Kd.N_below (by (with_reducible repeat (first | apply Kd.N_alloc | apply Kd.N_drewN | apply Kd.N_drew)); exact HO_235001.out) hb); have n4_ := Aside0.mk (Kd.V_below (by (with_reducible repeat (first | apply Kd.V_alloc | apply Kd.V_drewN | apply Kd.V_drew)); exact HO_235002.out) hb); have n5_ := Aside0.mk (blk_below (g := gb234) (o := .cells #[.int .i64 t235, .slice Ao23 t236.length co23, .slice Ao25 t239.length co25] 25 (0, 0)) (by (with_reducible repeat (first | refine blk_drewN ?_ _ | refine blk_drew ?_ | refine blk_alloc ?_ _)); exact BK234.out) hb); have n6_ := Aside0.mk (below_step (by repeat (first | (with_reducible first | exact HB.out | apply below_alloc | apply pw_below_drewN | apply below_drew1 | refine below_set ?_ GE234.out) | exact HB.out)) hb); clear HO_1; clear HO_2; clear HO_17; clear HO_235001; clear HO_235002; clear BK234; clear HB; have HO_1 := n0_; have HO_2 := n1_; have HO_17 := n2_; have HO_235001 := n3_; have HO_235002 := n4_; have BK234 := n5_; have HB := n6_; clear n0_ n1_ n2_ n3_ n4_ n5_ n6_; (try clear hb); (try clear hb2); (try clear hk); (try clear hi)))
              go_ret
              exact ⟨by first | rfl | (simp [errW_none, errW_some] <;> rfl) | (simp only [← hji10]; first | rfl | (simp [errW_none, errW_some] <;> rfl)) | (simp [*, errW_none, errW_some] <;> rfl), by repeat (first | (with_reducible first | exact HB.out | apply below_alloc | apply pw_below_drewN | apply below_drew1 | refine below_set ?_ GE234.out) | exact HB.out)⟩
            ·rw [if_neg c88] at H
             have c88b0 : (t253 == 0) = false := beq_eq_false_iff_ne.mpr c88
             have c88b1 : (t253 != 0) = true := bne_iff_ne.mpr c88
             obtain rfl := Option.some.inj H
             go_wp2
             go_ret
             exact ⟨by first | rfl | (simp [errW_none, errW_some] <;> rfl) | (simp only [← hji10]; first | rfl | (simp [errW_none, errW_some] <;> rfl)) | (simp [*, errW_none, errW_some] <;> rfl), by repeat (first | (with_reducible first | exact HB.out | apply below_alloc | apply pw_below_drewN | apply below_drew1 | refine below_set ?_ GE234.out) | exact HB.out)⟩
          case rest =>
           clear HC84
           try clear c1
           try clear c2
           try clear p2
           try clear c3
           try clear c4
           try clear c5
           try clear c6
           try clear c7
           try clear c8
           try clear c9
           try clear c10
           try clear c11
           try clear c11b0
           try clear c11b1
           try clear c12
           try clear c12b0
           try clear c12b1
           try clear c13
           try clear c14
           try clear c15
           try clear c17
           try clear c20
           try clear c36
           try clear c36b0
           try clear c36b1
           try clear c43
           try clear c46
           try clear c46b0
           try clear c47
           try clear c48
           try clear c48b0
           try clear c48b1
           try clear c49
           try clear c49b0
           try clear c49b1
           try clear c49b2
           try clear c53
           try clear c54
           try clear c54b0
           try clear c54b1
           try clear c57
           try clear c67
           try clear c67b0
           try clear c67b1
           try clear c68
           try clear c68b0
           try clear c68b1
           try clear c68b2
           try clear c76
           try clear c85
           try clear c86
           try clear c86b0
           try clear c86b1
           try clear c87
           try clear c87b0
           try clear c87b1
           try clear c88
           try clear c88b0
           try clear c88b1
           try clear c90
           try clear c90b0
           try clear c90b1
           try clear hcz29_0
           try clear hcz29_1
           try clear hcz29_2
           try clear hcz32_0
           try clear hcz32_1
           try clear hcz32_2
           try clear hcz78_0
           try clear hcz78_1
           try clear hcz78_2
           try clear hcz80_0
           try clear hcz80_1
           try clear hcz80_2
           try clear hcz82_0
           try clear hcz82_1
           try clear hcz82_2
           try clear hcz91_0
           try clear hcz91_1
           try clear hcz91_2
           try clear hcz93_0
           try clear hcz93_1
           try clear hcz93_2
           try clear hfz29_0
           try clear hfz29_1
           try clear hfz29_2
           try clear hfz32_0
           try clear hfz32_1
           try clear hfz32_2
           try clear hfz78_0
           try clear hfz78_1
           try clear hfz78_2
           try clear hfz80_0
           try clear hfz80_1
           try clear hfz80_2
           try clear hfz82_0
           try clear hfz82_1
           try clear hfz82_2
           try clear hfz91_0
           try clear hfz91_1
           try clear hfz91_2
           try clear hfz93_0
           try clear hfz93_1
           try clear hfz93_2
           try clear p2
           obtain ⟨kq, HA, HJ83, HO_2, HO_17, HO_235001, HO_235002, BK234, HB⟩ := hcut
           cases kq with
           | zero => exact absurd HA.out (by simp [footwaylaw20_JudgeTells.j4])
           | succ kj83 =>
            have H := HA.out
            clear HA
            simp only [footwaylaw20_JudgeTells.j4] at H
            replace H := Option.bind_eq_some_iff.mp H
            obtain ⟨t269, A950, H⟩ := H
            replace H : (if t269 = true then (if a5 < 0 then (footwaylaw20_JudgeTells.j5 kj83 t245 a5 t254 t257 true t235 t236 t239) else (footwaylaw20_JudgeTells.j5 kj83 t245 a5 t254 t257 (decide (a5 ≥ (t239.length : Int))) t235 t236 t239)) else (if t257 = 1 then (some ((t254.length : Int) == 0)) else (some false))) = some r := H
            have A95 := Aside0.mk A950
            clear A950
            by_cases c96 : t269 = true
            ·subst c96
             have H1 : (if a5 < 0 then (footwaylaw20_JudgeTells.j5 kj83 t245 a5 t254 t257 true t235 t236 t239) else (footwaylaw20_JudgeTells.j5 kj83 t245 a5 t254 t257 (decide (a5 ≥ (t239.length : Int))) t235 t236 t239)) = some r := by rw [if_pos rfl] at H; exact H
             clear H
             have H := H1
             clear H1
             have HC97 := Aside0.mk H
             clear H
             have hcz98_0 : wc.cell? ⟨gb234, 0, none⟩ = some (.int .i64 t235) := (blk_cell BK234.out 0).trans rfl
             have hcz98_1 : wc.cell? ⟨gb234, 1, none⟩ = some (.slice Ao23 t236.length co23) := (blk_cell BK234.out 1).trans rfl
             have hcz98_2 : wc.cell? ⟨gb234, 2, none⟩ = some (.slice Ao25 t239.length co25) := (blk_cell BK234.out 2).trans rfl
             have hfz98_0 := blk_frozen BK234.out 0
             have hfz98_1 := blk_frozen BK234.out 1
             have hfz98_2 := blk_frozen BK234.out 2
             go_upto_region 22 with (first | ((with_reducible refine gate_callee (f := 22) rfl ?_); refine goesL_ (some 127) rfl rfl Try.func22 (by kernel_rfl) rfl #[.agg #[.int .i64 t235, .slice Ao23 t236.length co23, .slice Ao25 t239.length co25]] rfl (by (try simp only [List.map_toArray, List.map_cons, List.map_nil]); first | done | rfl | (simp only [List.length_drop, List.length_take]; rfl)) ?_; (with_reducible refine (footwayref15_Right.calls kj83 t235 _ _ t236 _ _ t239 true _ ?side1 ?side2 ?side3 ?side4 A95.out).mono ?_); (case side1 => repeat (first | exact (Kd.N_reads' HO_235001.out).2.2 | (with_reducible refine Kd.C_alloc ?_ _) | (with_reducible refine Kd.C_drewN ?_ _) | (with_reducible refine Kd.C_drew ?_))); (case side2 => exact (Kd.N_reads' HO_235001.out).2.1); (case side3 => repeat (first | exact (Kd.V_reads' HO_235002.out).2.2 | (with_reducible refine Kd.C_alloc ?_ _) | (with_reducible refine Kd.C_drewN ?_ _) | (with_reducible refine Kd.C_drew ?_))); (case side4 => exact (Kd.V_reads' HO_235002.out).2.1); rintro e w99 ⟨rfl, hb⟩; refine ⟨_, rfl, ?_⟩; have n0_ := Aside0.mk (Kd.R_below (by (with_reducible repeat (first | apply Kd.R_alloc | apply Kd.R_drewN | apply Kd.R_drew)); exact HO_2.out) hb); have n1_ := Aside0.mk (Kd.R_below (by (with_reducible repeat (first | apply Kd.R_alloc | apply Kd.R_drewN | apply Kd.R_drew)); exact HO_17.out) hb); have n2_ := Aside0.mk (Kd.N_below (by (with_reducible repeat (first | apply Kd.N_alloc | apply Kd.N_drewN | apply Kd.N_drew)); exact HO_235001.out) hb); have n3_ := Aside0.mk (Kd.V_below (by (with_reducible repeat (first | apply Kd.V_alloc | apply Kd.V_drewN | apply Kd.V_drew)); exact HO_235002.out) hb); have n4_ := Aside0.mk (blk_below (g := gb234) (o := .cells #[.int .i64 t235, .slice Ao23 t236.length co23, .slice Ao25 t239.length co25] 25 (0, 0)) (by (with_reducible repeat (first | refine blk_drewN ?_ _ | refine blk_drew ?_ | refine blk_alloc ?_ _)); exact BK234.out) hb); have n5_ := Aside0.mk (below_step (by repeat (first | (with_reducible first | exact HB.out | apply below_alloc | apply pw_below_drewN | apply below_drew1 | refine below_set ?_ GE234.out) | exact HB.out)) hb); clear HO_2; clear HO_17; clear HO_235001; clear HO_235002; clear BK234; clear HB; have HO_2 := n0_; have HO_17 := n1_; have HO_235001 := n2_; have HO_235002 := n3_; have BK234 := n4_; have HB := n5_; clear n0_ n1_ n2_ n3_ n4_ n5_; (try clear hb); (try clear hb2); (try clear hk); (try clear hi)))
             (try simp only [Act.put, List.setIfInBounds_toArray, List.set_cons_zero, List.set_cons_succ])
             go_cut [136] (fun v136 wc => ∃ (kq : Nat) (x136_96 : Bool), v136 = .bool x136_96 ∧ Aside0 (footwaylaw20_JudgeTells.j5 kq t245 a5 t254 t257 x136_96 t235 t236 t239 = some r) ∧ Aside0 (kq ≤ kj83) ∧ Aside0 (Kd.R k80 80 wc w.heap.size (fun _ => True) (.slice Ao27 t245.length co27) t245) ∧ Aside0 (Kd.R (Kd.int .i64) 3 wc w.heap.size (fun _ => True) v255 t254) ∧ Aside0 (Kd.N k64 64 wc w.heap.size (fun k_ => some k_ ≠ ((.slice Ao27 t245.length co27) : Value).ownBlock ∧ some k_ ≠ (v255 : Value).ownBlock ∧ k_ ≠ gb234) (.slice Ao23 t236.length co23) t236) ∧ Aside0 (Kd.V k91 91 wc w.heap.size (fun k_ => some k_ ≠ ((.slice Ao27 t245.length co27) : Value).ownBlock ∧ some k_ ≠ (v255 : Value).ownBlock ∧ some k_ ≠ ((.slice Ao23 t236.length co23) : Value).ownBlock ∧ k_ ≠ gb234) (.slice Ao25 t239.length co25) t239) ∧ Aside0 (wc.heap[gb234]? = some (.cells #[.int .i64 t235, (.slice Ao23 t236.length co23), (.slice Ao25 t239.length co25)] 25 (0, 0))) ∧ Aside0 (Below w.heap.size w wc))
             case first =>
              have H := HC97.out
              clear HC97
              by_cases c100 : a5 < 0
              ·rw [if_pos c100] at H
               have c100b0 : decide (a5 < 0) = true := decide_eq_true c100
               clear c100
               (first | rw [c100b0] | (simp only [i64_w, i32_w]; rw [c100b0]) | skip)
               have H' := Aside0.mk H
               clear H
               go_wp2
               go_meet
               case rel => exact ⟨_, (true), (by first | rfl | (simp; done) | (simp [*]; done)), H', ⟨by have := HJ15.out; have := HJ43.out; have := HJ73.out; have := HJ83.out; first | omega | exact Nat.le_refl _⟩, ⟨by (with_reducible repeat (first | apply Kd.R_alloc | apply Kd.R_drewN | apply Kd.R_drew)); exact HO_2.out⟩, ⟨by (with_reducible repeat (first | apply Kd.R_alloc | apply Kd.R_drewN | apply Kd.R_drew)); exact HO_17.out⟩, ⟨by (with_reducible repeat (first | apply Kd.N_alloc | apply Kd.N_drewN | apply Kd.N_drew)); exact HO_235001.out⟩, ⟨by (with_reducible repeat (first | apply Kd.V_alloc | apply Kd.V_drewN | apply Kd.V_drew)); exact HO_235002.out⟩, ⟨by (with_reducible repeat (first | refine blk_drewN ?_ _ | refine blk_drew ?_ | refine blk_alloc ?_ _)); exact BK234.out⟩, ⟨by repeat (first | (with_reducible first | exact HB.out | apply below_alloc | apply pw_below_drewN | apply below_drew1 | refine below_set ?_ GE234.out) | exact HB.out)⟩⟩
              ·rw [if_neg c100] at H
               have c100b0 : decide (a5 < 0) = false := decide_eq_false c100
               clear c100
               (first | rw [c100b0] | (simp only [i64_w, i32_w]; rw [c100b0]) | skip)
               have H' := Aside0.mk H
               clear H
               have hcz101_0 : w99.cell? ⟨gb234, 0, none⟩ = some (.int .i64 t235) := (blk_cell BK234.out 0).trans rfl
               have hcz101_1 : w99.cell? ⟨gb234, 1, none⟩ = some (.slice Ao23 t236.length co23) := (blk_cell BK234.out 1).trans rfl
               have hcz101_2 : w99.cell? ⟨gb234, 2, none⟩ = some (.slice Ao25 t239.length co25) := (blk_cell BK234.out 2).trans rfl
               have hfz101_0 := blk_frozen BK234.out 0
               have hfz101_1 := blk_frozen BK234.out 1
               have hfz101_2 := blk_frozen BK234.out 2
               go_wp2
               go_meet
               case rel => exact ⟨_, (decide (a5 ≥ (t239.length : Int))), (by first | rfl | (simp; done) | (simp [*]; done)), H', ⟨by have := HJ15.out; have := HJ43.out; have := HJ73.out; have := HJ83.out; first | omega | exact Nat.le_refl _⟩, ⟨by (with_reducible repeat (first | apply Kd.R_alloc | apply Kd.R_drewN | apply Kd.R_drew)); exact HO_2.out⟩, ⟨by (with_reducible repeat (first | apply Kd.R_alloc | apply Kd.R_drewN | apply Kd.R_drew)); exact HO_17.out⟩, ⟨by (with_reducible repeat (first | apply Kd.N_alloc | apply Kd.N_drewN | apply Kd.N_drew)); exact HO_235001.out⟩, ⟨by (with_reducible repeat (first | apply Kd.V_alloc | apply Kd.V_drewN | apply Kd.V_drew)); exact HO_235002.out⟩, ⟨by (with_reducible repeat (first | refine blk_drewN ?_ _ | refine blk_drew ?_ | refine blk_alloc ?_ _)); exact BK234.out⟩, ⟨by repeat (first | (with_reducible first | exact HB.out | apply below_alloc | apply pw_below_drewN | apply below_drew1 | refine below_set ?_ GE234.out) | exact HB.out)⟩⟩
             case rest =>
              clear HC97
              try clear c1
              try clear c2
              try clear p2
              try clear c3
              try clear c4
              try clear c5
              try clear c6
              try clear c7
              try clear c8
              try clear c9
              try clear c10
              try clear c11
              try clear c11b0
              try clear c11b1
              try clear c12
              try clear c12b0
              try clear c12b1
              try clear c13
              try clear c14
              try clear c15
              try clear c17
              try clear c20
              try clear c22
              try clear c36
              try clear c36b0
              try clear c36b1
              try clear c43
              try clear c46
              try clear c46b0
              try clear c47
              try clear c48
              try clear c48b0
              try clear c48b1
              try clear c49
              try clear c49b0
              try clear c49b1
              try clear c49b2
              try clear c53
              try clear c54
              try clear c54b0
              try clear c54b1
              try clear c57
              try clear c67
              try clear c67b0
              try clear c67b1
              try clear c68
              try clear c68b0
              try clear c68b1
              try clear c68b2
              try clear c76
              try clear c85
              try clear c86
              try clear c86b0
              try clear c86b1
              try clear c87
              try clear c87b0
              try clear c87b1
              try clear c88
              try clear c88b0
              try clear c88b1
              try clear c90
              try clear c90b0
              try clear c90b1
              try clear c96
              try clear c100
              try clear c100b0
              try clear hcz101_0
              try clear hcz101_1
              try clear hcz101_2
              try clear hcz29_0
              try clear hcz29_1
              try clear hcz29_2
              try clear hcz32_0
              try clear hcz32_1
              try clear hcz32_2
              try clear hcz78_0
              try clear hcz78_1
              try clear hcz78_2
              try clear hcz80_0
              try clear hcz80_1
              try clear hcz80_2
              try clear hcz82_0
              try clear hcz82_1
              try clear hcz82_2
              try clear hcz91_0
              try clear hcz91_1
              try clear hcz91_2
              try clear hcz93_0
              try clear hcz93_1
              try clear hcz93_2
              try clear hcz98_0
              try clear hcz98_1
              try clear hcz98_2
              try clear hfz101_0
              try clear hfz101_1
              try clear hfz101_2
              try clear hfz29_0
              try clear hfz29_1
              try clear hfz29_2
              try clear hfz32_0
              try clear hfz32_1
              try clear hfz32_2
              try clear hfz78_0
              try clear hfz78_1
              try clear hfz78_2
              try clear hfz80_0
              try clear hfz80_1
              try clear hfz80_2
              try clear hfz82_0
              try clear hfz82_1
              try clear hfz82_2
              try clear hfz91_0
              try clear hfz91_1
              try clear hfz91_2
              try clear hfz93_0
              try clear hfz93_1
              try clear hfz93_2
              try clear hfz98_0
              try clear hfz98_1
              try clear hfz98_2
              try clear p2
              obtain ⟨kq, x136_96, rfl, HA, HJ96, HO_2, HO_17, HO_235001, HO_235002, BK234, HB⟩ := hcut
              cases kq with
              | zero => exact absurd HA.out (by simp [footwaylaw20_JudgeTells.j5])
              | succ kj96 =>
               have H := HA.out
               clear HA
               simp only [footwaylaw20_JudgeTells.j5] at H
               by_cases c102 : x136_96 = true
               ·subst c102
                have H1 : (if t257 = 3 then (some ((t254.length : Int) == 0)) else (some false)) = some r := by rw [if_pos rfl] at H; exact H
                clear H
                have H := H1
                clear H1
                by_cases c103 : t257 = 3
                ·rw [if_pos c103] at H
                 have c103b0 : (t257 == 3) = true := beq_iff_eq.mpr c103
                 have c103b1 : (t257 != 3) = false := bne_eq_false_iff_eq.mpr c103
                 clear c103
                 obtain rfl := Option.some.inj H
                 obtain ⟨Ao104, co104, eo104⟩ := Kd.R_slice HO_17.out
                 subst eo104
                 go_wp2
                 go_ret
                 exact ⟨by first | rfl | (simp [errW_none, errW_some] <;> rfl) | (simp only [← hji10]; first | rfl | (simp [errW_none, errW_some] <;> rfl)) | (simp [*, errW_none, errW_some] <;> rfl), by repeat (first | (with_reducible first | exact HB.out | apply below_alloc | apply pw_below_drewN | apply below_drew1 | refine below_set ?_ GE234.out) | exact HB.out)⟩
                ·rw [if_neg c103] at H
                 have c103b0 : (t257 == 3) = false := beq_eq_false_iff_ne.mpr c103
                 have c103b1 : (t257 != 3) = true := bne_iff_ne.mpr c103
                 obtain rfl := Option.some.inj H
                 go_wp2
                 go_ret
                 exact ⟨by first | rfl | (simp [errW_none, errW_some] <;> rfl) | (simp only [← hji10]; first | rfl | (simp [errW_none, errW_some] <;> rfl)) | (simp [*, errW_none, errW_some] <;> rfl), by repeat (first | (with_reducible first | exact HB.out | apply below_alloc | apply pw_below_drewN | apply below_drew1 | refine below_set ?_ GE234.out) | exact HB.out)⟩
               ·replace c102 := Bool.eq_false_iff.mpr c102
                subst c102
                have H1 : (if t257 = 0 then ((footwayref20_Hears.f kj96 t235 t236 t239 t245 a5).bind fun t270 => ((footwayref06_Same.f kj96 t254 t270).bind fun t273 => (some t273))) else (some false)) = some r := by rw [if_neg (show ¬ (false = true) by decide)] at H; exact H
                clear H
                have H := H1
                clear H1
                by_cases c105 : t257 = 0
                ·rw [if_pos c105] at H
                 have c105b0 : (t257 == 0) = true := beq_iff_eq.mpr c105
                 have c105b1 : (t257 != 0) = false := bne_eq_false_iff_eq.mpr c105
                 clear c105
                 replace H := Option.bind_eq_some_iff.mp H
                 obtain ⟨t270, A1060, H⟩ := H
                 replace H : ((footwayref06_Same.f kj96 t254 t270).bind fun t273 => (some t273)) = some r := H
                 have A106 := Aside0.mk A1060
                 clear A1060
                 replace H := Option.bind_eq_some_iff.mp H
                 obtain ⟨t273, A1070, H⟩ := H
                 replace H : (some t273) = some r := H
                 have A107 := Aside0.mk A1070
                 clear A1070
                 obtain rfl := Option.some.inj H
                 have hcz108_0 : wc.cell? ⟨gb234, 0, none⟩ = some (.int .i64 t235) := (blk_cell BK234.out 0).trans rfl
                 have hcz108_1 : wc.cell? ⟨gb234, 1, none⟩ = some (.slice Ao23 t236.length co23) := (blk_cell BK234.out 1).trans rfl
                 have hcz108_2 : wc.cell? ⟨gb234, 2, none⟩ = some (.slice Ao25 t239.length co25) := (blk_cell BK234.out 2).trans rfl
                 have hfz108_0 := blk_frozen BK234.out 0
                 have hfz108_1 := blk_frozen BK234.out 1
                 have hfz108_2 := blk_frozen BK234.out 2
                 go_wp2_with (first | (go_at_call 23; (with_reducible refine (footwayref20_Hears.calls kj96 t235 _ _ t236 _ _ t239 _ _ t245 a5 t270 _ ?side1 ?side2 ?side3 ?side4 ?side5 ?side6 A106.out).mono ?_); (case side1 => repeat (first | exact (Kd.N_reads' HO_235001.out).2.2 | (with_reducible refine Kd.C_alloc ?_ _) | (with_reducible refine Kd.C_drewN ?_ _) | (with_reducible refine Kd.C_drew ?_))); (case side2 => exact (Kd.N_reads' HO_235001.out).2.1); (case side3 => repeat (first | exact (Kd.V_reads' HO_235002.out).2.2 | (with_reducible refine Kd.C_alloc ?_ _) | (with_reducible refine Kd.C_drewN ?_ _) | (with_reducible refine Kd.C_drew ?_))); (case side4 => exact (Kd.V_reads' HO_235002.out).2.1); (case side5 => repeat (first | exact (Kd.R_reads' HO_2.out).2.2 | (with_reducible refine Kd.C_alloc ?_ _) | (with_reducible refine Kd.C_drewN ?_ _) | (with_reducible refine Kd.C_drew ?_))); (case side6 => exact (Kd.R_reads' HO_2.out).2.1); rintro e w109 ⟨v271, rfl, ho0, hb⟩; have n0_ := Aside0.mk (Kd.R_below (by (with_reducible repeat (first | apply Kd.R_alloc | apply Kd.R_drewN | apply Kd.R_drew)); exact HO_2.out) hb); have n1_ := Aside0.mk (Kd.R_elder' (by (with_reducible repeat (first | apply Kd.R_alloc | apply Kd.R_drewN | apply Kd.R_drew)); exact HO_17.out) (Kd.R_base ho0) hb); have n2_ := Aside0.mk (Kd.N_elder' (by (with_reducible repeat (first | apply Kd.N_alloc | apply Kd.N_drewN | apply Kd.N_drew)); exact HO_235001.out) (Kd.R_base ho0) hb); have n3_ := Aside0.mk (Kd.V_elder' (by (with_reducible repeat (first | apply Kd.V_alloc | apply Kd.V_drewN | apply Kd.V_drew)); exact HO_235002.out) (Kd.R_base ho0) hb); have n4_ := Aside0.mk (Kd.R_lower (Kd.R_new' ho0 (Kd.R_lt (by (with_reducible repeat (first | apply Kd.R_alloc | apply Kd.R_drewN | apply Kd.R_drew)); exact HO_17.out))) (below_size (by repeat (first | (with_reducible first | exact HB.out | apply below_alloc | apply pw_below_drewN | apply below_drew1 | refine below_set ?_ GE234.out) | exact HB.out)))); have n5_ := Aside0.mk (blk_below (g := gb234) (o := .cells #[.int .i64 t235, .slice Ao23 t236.length co23, .slice Ao25 t239.length co25] 25 (0, 0)) (by (with_reducible repeat (first | refine blk_drewN ?_ _ | refine blk_drew ?_ | refine blk_alloc ?_ _)); exact BK234.out) hb); have n6_ := Aside0.mk (below_step (by repeat (first | (with_reducible first | exact HB.out | apply below_alloc | apply pw_below_drewN | apply below_drew1 | refine below_set ?_ GE234.out) | exact HB.out)) hb); clear HO_2; clear HO_17; clear HO_235001; clear HO_235002; clear BK234; clear HB; have HO_2 := n0_; have HO_17 := n1_; have HO_235001 := n2_; have HO_235002 := n3_; have HO272 := n4_; have BK234 := n5_; have HB := n6_; clear n0_ n1_ n2_ n3_ n4_ n5_ n6_; (try clear hb); (try clear hb2); (try clear hk); (try clear hi); (try clear ho0); obtain ⟨Ao110, co110, eo110⟩ := Kd.R_slice HO_17.out; subst eo110; obtain ⟨Ao111, co111, eo111⟩ := Kd.R_slice HO272.out; subst eo111) | (go_at_call 18; (with_reducible refine (footwayref06_Same.calls kj96 _ _ t254 _ _ t270 t273 _ ?side1 ?side2 ?side3 ?side4 A107.out).mono ?_); (case side1 => repeat (first | exact (Kd.R_reads' HO_17.out).2.2 | (with_reducible refine Kd.C_alloc ?_ _) | (with_reducible refine Kd.C_drewN ?_ _) | (with_reducible refine Kd.C_drew ?_))); (case side2 => exact (Kd.R_reads' HO_17.out).2.1); (case side3 => repeat (first | exact (Kd.R_reads' HO272.out).2.2 | (with_reducible refine Kd.C_alloc ?_ _) | (with_reducible refine Kd.C_drewN ?_ _) | (with_reducible refine Kd.C_drew ?_))); (case side4 => exact (Kd.R_reads' HO272.out).2.1); rintro e w' ⟨rfl, ⟨nd, rfl⟩⟩))
                 go_ret
                 exact ⟨by first | rfl | (simp [errW_none, errW_some] <;> rfl) | (simp only [← hji10]; first | rfl | (simp [errW_none, errW_some] <;> rfl)) | (simp [*, errW_none, errW_some] <;> rfl), by repeat (first | (with_reducible first | exact HB.out | apply below_alloc | apply pw_below_drewN | apply below_drew1 | refine below_set ?_ GE234.out) | exact HB.out)⟩
                ·rw [if_neg c105] at H
                 have c105b0 : (t257 == 0) = false := beq_eq_false_iff_ne.mpr c105
                 have c105b1 : (t257 != 0) = true := bne_iff_ne.mpr c105
                 obtain rfl := Option.some.inj H
                 go_wp2
                 go_ret
                 exact ⟨by first | rfl | (simp [errW_none, errW_some] <;> rfl) | (simp only [← hji10]; first | rfl | (simp [errW_none, errW_some] <;> rfl)) | (simp [*, errW_none, errW_some] <;> rfl), by repeat (first | (with_reducible first | exact HB.out | apply below_alloc | apply pw_below_drewN | apply below_drew1 | refine below_set ?_ GE234.out) | exact HB.out)⟩
            ·replace c96 := Bool.eq_false_iff.mpr c96
             subst c96
             have H1 : (if t257 = 1 then (some ((t254.length : Int) == 0)) else (some false)) = some r := by rw [if_neg (show ¬ (false = true) by decide)] at H; exact H
             clear H
             have H := H1
             clear H1
             by_cases c112 : t257 = 1
             ·rw [if_pos c112] at H
              have c112b0 : (t257 == 1) = true := beq_iff_eq.mpr c112
              have c112b1 : (t257 != 1) = false := bne_eq_false_iff_eq.mpr c112
              clear c112
              obtain rfl := Option.some.inj H
              have hcz113_0 : wc.cell? ⟨gb234, 0, none⟩ = some (.int .i64 t235) := (blk_cell BK234.out 0).trans rfl
              have hcz113_1 : wc.cell? ⟨gb234, 1, none⟩ = some (.slice Ao23 t236.length co23) := (blk_cell BK234.out 1).trans rfl
              have hcz113_2 : wc.cell? ⟨gb234, 2, none⟩ = some (.slice Ao25 t239.length co25) := (blk_cell BK234.out 2).trans rfl
              have hfz113_0 := blk_frozen BK234.out 0
              have hfz113_1 := blk_frozen BK234.out 1
              have hfz113_2 := blk_frozen BK234.out 2
              go_wp2_with (first | ((with_reducible refine gate_callee (f := 22) rfl ?_); refine goesL_ (some 127) rfl rfl Try.func22 (by kernel_rfl) rfl #[.agg #[.int .i64 t235, .slice Ao23 t236.length co23, .slice Ao25 t239.length co25]] rfl (by (try simp only [List.map_toArray, List.map_cons, List.map_nil]); first | done | rfl | (simp only [List.length_drop, List.length_take]; rfl)) ?_; (with_reducible refine (footwayref15_Right.calls kj83 t235 _ _ t236 _ _ t239 false _ ?side1 ?side2 ?side3 ?side4 A95.out).mono ?_); (case side1 => repeat (first | exact (Kd.N_reads' HO_235001.out).2.2 | (with_reducible refine Kd.C_alloc ?_ _) | (with_reducible refine Kd.C_drewN ?_ _) | (with_reducible refine Kd.C_drew ?_))); (case side2 => exact (Kd.N_reads' HO_235001.out).2.1); (case side3 => repeat (first | exact (Kd.V_reads' HO_235002.out).2.2 | (with_reducible refine Kd.C_alloc ?_ _) | (with_reducible refine Kd.C_drewN ?_ _) | (with_reducible refine Kd.C_drew ?_))); (case side4 => exact (Kd.V_reads' HO_235002.out).2.1); rintro e w114 ⟨rfl, hb⟩; refine ⟨_, rfl, ?_⟩; have n0_ := Aside0.mk (Kd.R_below (by (with_reducible repeat (first | apply Kd.R_alloc | apply Kd.R_drewN | apply Kd.R_drew)); exact HO_2.out) hb); have n1_ := Aside0.mk (Kd.R_below (by (with_reducible repeat (first | apply Kd.R_alloc | apply Kd.R_drewN | apply Kd.R_drew)); exact HO_17.out) hb); have n2_ := Aside0.mk (Kd.N_below (by (with_reducible repeat (first | apply Kd.N_alloc | apply Kd.N_drewN | apply Kd.N_drew)); exact HO_235001.out) hb); have n3_ := Aside0.mk (Kd.V_below (by (with_reducible repeat (first | apply Kd.V_alloc | apply Kd.V_drewN | apply Kd.V_drew)); exact HO_235002.out) hb); have n4_ := Aside0.mk (blk_below (g := gb234) (o := .cells #[.int .i64 t235, .slice Ao23 t236.length co23, .slice Ao25 t239.length co25] 25 (0, 0)) (by (with_reducible repeat (first | refine blk_drewN ?_ _ | refine blk_drew ?_ | refine blk_alloc ?_ _)); exact BK234.out) hb); have n5_ := Aside0.mk (below_step (by repeat (first | (with_reducible first | exact HB.out | apply below_alloc | apply pw_below_drewN | apply below_drew1 | refine below_set ?_ GE234.out) | exact HB.out)) hb); clear HO_2; clear HO_17; clear HO_235001; clear HO_235002; clear BK234; clear HB; have HO_2 := n0_; have HO_17 := n1_; have HO_235001 := n2_; have HO_235002 := n3_; have BK234 := n4_; have HB := n5_; clear n0_ n1_ n2_ n3_ n4_ n5_; (try clear hb); (try clear hb2); (try clear hk); (try clear hi); obtain ⟨Ao115, co115, eo115⟩ := Kd.R_slice HO_17.out; subst eo115))
              go_ret
              exact ⟨by first | rfl | (simp [errW_none, errW_some] <;> rfl) | (simp only [← hji10]; first | rfl | (simp [errW_none, errW_some] <;> rfl)) | (simp [*, errW_none, errW_some] <;> rfl), by repeat (first | (with_reducible first | exact HB.out | apply below_alloc | apply pw_below_drewN | apply below_drew1 | refine below_set ?_ GE234.out) | exact HB.out)⟩
             ·rw [if_neg c112] at H
              have c112b0 : (t257 == 1) = false := beq_eq_false_iff_ne.mpr c112
              have c112b1 : (t257 != 1) = true := bne_iff_ne.mpr c112
              obtain rfl := Option.some.inj H
              have hcz116_0 : wc.cell? ⟨gb234, 0, none⟩ = some (.int .i64 t235) := (blk_cell BK234.out 0).trans rfl
              have hcz116_1 : wc.cell? ⟨gb234, 1, none⟩ = some (.slice Ao23 t236.length co23) := (blk_cell BK234.out 1).trans rfl
              have hcz116_2 : wc.cell? ⟨gb234, 2, none⟩ = some (.slice Ao25 t239.length co25) := (blk_cell BK234.out 2).trans rfl
              have hfz116_0 := blk_frozen BK234.out 0
              have hfz116_1 := blk_frozen BK234.out 1
              have hfz116_2 := blk_frozen BK234.out 2
              go_wp2_with (first | ((with_reducible refine gate_callee (f := 22) rfl ?_); refine goesL_ (some 127) rfl rfl Try.func22 (by kernel_rfl) rfl #[.agg #[.int .i64 t235, .slice Ao23 t236.length co23, .slice Ao25 t239.length co25]] rfl (by (try simp only [List.map_toArray, List.map_cons, List.map_nil]); first | done | rfl | (simp only [List.length_drop, List.length_take]; rfl)) ?_; (with_reducible refine (footwayref15_Right.calls kj83 t235 _ _ t236 _ _ t239 false _ ?side1 ?side2 ?side3 ?side4 A95.out).mono ?_); (case side1 => repeat (first | exact (Kd.N_reads' HO_235001.out).2.2 | (with_reducible refine Kd.C_alloc ?_ _) | (with_reducible refine Kd.C_drewN ?_ _) | (with_reducible refine Kd.C_drew ?_))); (case side2 => exact (Kd.N_reads' HO_235001.out).2.1); (case side3 => repeat (first | exact (Kd.V_reads' HO_235002.out).2.2 | (with_reducible refine Kd.C_alloc ?_ _) | (with_reducible refine Kd.C_drewN ?_ _) | (with_reducible refine Kd.C_drew ?_))); (case side4 => exact (Kd.V_reads' HO_235002.out).2.1); rintro e w117 ⟨rfl, hb⟩; refine ⟨_, rfl, ?_⟩; have n0_ := Aside0.mk (Kd.R_below (by (with_reducible repeat (first | apply Kd.R_alloc | apply Kd.R_drewN | apply Kd.R_drew)); exact HO_2.out) hb); have n1_ := Aside0.mk (Kd.R_below (by (with_reducible repeat (first | apply Kd.R_alloc | apply Kd.R_drewN | apply Kd.R_drew)); exact HO_17.out) hb); have n2_ := Aside0.mk (Kd.N_below (by (with_reducible repeat (first | apply Kd.N_alloc | apply Kd.N_drewN | apply Kd.N_drew)); exact HO_235001.out) hb); have n3_ := Aside0.mk (Kd.V_below (by (with_reducible repeat (first | apply Kd.V_alloc | apply Kd.V_drewN | apply Kd.V_drew)); exact HO_235002.out) hb); have n4_ := Aside0.mk (blk_below (g := gb234) (o := .cells #[.int .i64 t235, .slice Ao23 t236.length co23, .slice Ao25 t239.length co25] 25 (0, 0)) (by (with_reducible repeat (first | refine blk_drewN ?_ _ | refine blk_drew ?_ | refine blk_alloc ?_ _)); exact BK234.out) hb); have n5_ := Aside0.mk (below_step (by repeat (first | (with_reducible first | exact HB.out | apply below_alloc | apply pw_below_drewN | apply below_drew1 | refine below_set ?_ GE234.out) | exact HB.out)) hb); clear HO_2; clear HO_17; clear HO_235001; clear HO_235002; clear BK234; clear HB; have HO_2 := n0_; have HO_17 := n1_; have HO_235001 := n2_; have HO_235002 := n3_; have BK234 := n4_; have HB := n5_; clear n0_ n1_ n2_ n3_ n4_ n5_; (try clear hb); (try clear hb2); (try clear hk); (try clear hi)))
              go_ret
              exact ⟨by first | rfl | (simp [errW_none, errW_some] <;> rfl) | (simp only [← hji10]; first | rfl | (simp [errW_none, errW_some] <;> rfl)) | (simp [*, errW_none, errW_some] <;> rfl), by repeat (first | (with_reducible first | exact HB.out | apply below_alloc | apply pw_below_drewN | apply below_drew1 | refine below_set ?_ GE234.out) | exact HB.out)⟩
  ·rw [if_neg c12] at H
   exact absurd H (by simp)
 ·rw [if_neg c11] at H
  exact absurd H (by simp)
end
end Go.Proofs.Ytjblfgagafmhcaa.K
