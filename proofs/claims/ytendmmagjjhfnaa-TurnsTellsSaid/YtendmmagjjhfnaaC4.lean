/- Functions and contracts printed by a program of this session (wip/tools), and texts by hand: Print, Parse, and the plain answers (part 4). -/
import Derived.Test.YtendmmagjjhfnaaCW
import Derived.Test.YtendmmagjjhfnaaC1
import Derived.Test.YtendmmagjjhfnaaC3
namespace Go.Proofs.Ytendmmagjjhfnaa.M
open Go.RowKit Go.Proofs.YtendmmagjjhfnaaW.PrintWords Go.Proofs.YtendmmagjjhfnaaW.PrintLast Go.Proofs.YtendmmagjjhfnaaW.PrintMore
attribute [local go_sem] max2_int min2_int max_two min_two max_three min_three max_four min_four
set_option linter.unusedVariables false
set_option linter.unusedSimpArgs false
mutual
def partitaref10_Walk_on.j0 : Nat → Bool → Int → Int → Int → Bool → Bool → Bool → Bool → Bool → Int → Int → Int → Bool → Bool → Bool → Int → Bool → Bool → Bool → Bool → Int → Option (Int × Int × Int × Bool × Bool × Bool × Bool × Bool)
  | 0, _, _, _, _, _, _, _, _, _, _, _, _, _, _, _, _, _, _, _, _, _ => none
  | k + 1, x66, x1000, x1001, x1002, x1003, x1004, x1005, x1006, x1007, x102000, x102001, x102002, x102003, x102004, x104000, x104001, x104003, x104004, x104005, x104006, x104007 => if x66 = true then (some (x1000, x1001, x1002, x1003, x1004, x1005, x1006, true)) else (if x1006 = true then (partitaref10_Walk_on.j1 k x104005 x1000 x1001 x1002 x1003 x1004 x1005 x1006 x1007 x102000 x102001 x102002 x102003 x102004 x104000 x104001 x104003 x104004 x104005 x104006 x104007) else (partitaref10_Walk_on.j1 k false x1000 x1001 x1002 x1003 x1004 x1005 x1006 x1007 x102000 x102001 x102002 x102003 x102004 x104000 x104001 x104003 x104004 x104005 x104006 x104007))
def partitaref10_Walk_on.j1 : Nat → Bool → Int → Int → Int → Bool → Bool → Bool → Bool → Bool → Int → Int → Int → Bool → Bool → Bool → Int → Bool → Bool → Bool → Bool → Int → Option (Int × Int × Int × Bool × Bool × Bool × Bool × Bool)
  | 0, _, _, _, _, _, _, _, _, _, _, _, _, _, _, _, _, _, _, _, _, _ => none
  | k + 1, x78, x1000, x1001, x1002, x1003, x1004, x1005, x1006, x1007, x102000, x102001, x102002, x102003, x102004, x104000, x104001, x104003, x104004, x104005, x104006, x104007 => if x78 = true then ((partitaref10_Walk_goTo.f x1000 x1001 x1002 x1003 x1004 x1005 false x1007 x102001).bind fun bt104 => (some (bt104.1, bt104.2.1, bt104.2.2.1, bt104.2.2.2.1, bt104.2.2.2.2.1, bt104.2.2.2.2.2.1, bt104.2.2.2.2.2.2.1, bt104.2.2.2.2.2.2.2))) else (if x104001 > 0 then (if x1004 = true then (partitaref10_Walk_on.j2 k false x1000 x1001 x1002 x1003 x1004 x1005 x1006 x1007 x102000 x102001 x102002 x102003 x102004 x104000 x104001 x104003 x104004 x104005 x104006 x104007) else (partitaref10_Walk_on.j2 k (decide (x1001 < x104001)) x1000 x1001 x1002 x1003 x1004 x1005 x1006 x1007 x102000 x102001 x102002 x102003 x102004 x104000 x104001 x104003 x104004 x104005 x104006 x104007)) else (partitaref10_Walk_on.j2 k false x1000 x1001 x1002 x1003 x1004 x1005 x1006 x1007 x102000 x102001 x102002 x102003 x102004 x104000 x104001 x104003 x104004 x104005 x104006 x104007))
def partitaref10_Walk_on.j2 : Nat → Bool → Int → Int → Int → Bool → Bool → Bool → Bool → Bool → Int → Int → Int → Bool → Bool → Bool → Int → Bool → Bool → Bool → Bool → Int → Option (Int × Int × Int × Bool × Bool × Bool × Bool × Bool)
  | 0, _, _, _, _, _, _, _, _, _, _, _, _, _, _, _, _, _, _, _, _, _ => none
  | k + 1, x94, x1000, x1001, x1002, x1003, x1004, x1005, x1006, x1007, x102000, x102001, x102002, x102003, x102004, x104000, x104001, x104003, x104004, x104005, x104006, x104007 => if x94 = true then (some (x1002, wrap64 (x1001 + 1), x1002, false, x1004, x1005, x1006, x1007)) else (if x1003 = true then (partitaref10_Walk_on.j3 k x1000 x1001 x1002 true x1004 x1005 x1006 x1007 x102000 x102001 x102002 x102003 x102004 x104000 x104001 x104003 x104004 x104005 x104006 x104007) else (partitaref10_Walk_on.j3 k x1000 x1001 x1002 (decide (x104001 > 0)) x1004 x1005 x1006 x1007 x102000 x102001 x102002 x102003 x102004 x104000 x104001 x104003 x104004 x104005 x104006 x104007))
def partitaref10_Walk_on.j3 : Nat → Int → Int → Int → Bool → Bool → Bool → Bool → Bool → Int → Int → Int → Bool → Bool → Bool → Int → Bool → Bool → Bool → Bool → Int → Option (Int × Int × Int × Bool × Bool × Bool × Bool × Bool)
  | 0, _, _, _, _, _, _, _, _, _, _, _, _, _, _, _, _, _, _, _, _ => none
  | k + 1, x1000, x1001, x1002, x1003, x1004, x1005, x1006, x1007, x102000, x102001, x102002, x102003, x102004, x104000, x104001, x104003, x104004, x104005, x104006, x104007 => if x104007 = 0 then (partitaref10_Walk_on.j4 k true x1000 x1001 x1002 x1003 x1004 x1005 x1006 x1007 x102000 x102001 x102002 x102003 x102004 x104000 x104001 x104003 x104004 x104005 x104006 x104007) else (partitaref10_Walk_on.j4 k x1004 x1000 x1001 x1002 x1003 x1004 x1005 x1006 x1007 x102000 x102001 x102002 x102003 x102004 x104000 x104001 x104003 x104004 x104005 x104006 x104007)
def partitaref10_Walk_on.j4 : Nat → Bool → Int → Int → Int → Bool → Bool → Bool → Bool → Bool → Int → Int → Int → Bool → Bool → Bool → Int → Bool → Bool → Bool → Bool → Int → Option (Int × Int × Int × Bool × Bool × Bool × Bool × Bool)
  | 0, _, _, _, _, _, _, _, _, _, _, _, _, _, _, _, _, _, _, _, _, _ => none
  | k + 1, x34, x1000, x1001, x1002, x1003, x1004, x1005, x1006, x1007, x102000, x102001, x102002, x102003, x102004, x104000, x104001, x104003, x104004, x104005, x104006, x104007 => if x34 = true then (some (wrap64 (x1000 + 1), x1001, x1002, x1003, x1004, x1005, x1006, x1007)) else ((partitaref10_forFine.f x104007).bind fun t112 => ((partitaref10_forCoda.f x104007).bind fun t113 => ((partitaref10_toSign.f x104007).bind fun t114 => (if t114 = true then ((partitaref10_Walk_goTo.f x1000 x1001 x1002 x1003 true t112 t113 x1007 x102000).bind fun bt115 => (some (bt115.1, bt115.2.1, bt115.2.2.1, bt115.2.2.2.1, bt115.2.2.2.2.1, bt115.2.2.2.2.2.1, bt115.2.2.2.2.2.2.1, bt115.2.2.2.2.2.2.2))) else ((partitaref10_Walk_goTo.f x1000 x1001 x1002 x1003 true t112 t113 x1007 0).bind fun bt123 => (some (bt123.1, bt123.2.1, bt123.2.2.1, bt123.2.2.2.1, bt123.2.2.2.2.1, bt123.2.2.2.2.2.1, bt123.2.2.2.2.2.2.1, bt123.2.2.2.2.2.2.2)))))))
end
def partitaref10_Walk_on.f (k : Nat) (s0_0 : Int) (s0_1 : Int) (s0_2 : Int) (s0_3 : Bool) (s0_4 : Bool) (s0_5 : Bool) (s0_6 : Bool) (s0_7 : Bool) (l1 : List (S38)) (a2_0 : Int) (a2_1 : Int) (a2_2 : Int) (a2_3 : Bool) (a2_4 : Bool) : Option (Int × Int × Int × Bool × Bool × Bool × Bool × Bool) := if 0 ≤ s0_0 then (if s0_0 < (l1.length : Int) then (if s0_5 = true then (partitaref10_Walk_on.j0 k ((rd_T38 l1 s0_0).f6) s0_0 s0_1 s0_2 s0_3 s0_4 s0_5 s0_6 s0_7 a2_0 a2_1 a2_2 a2_3 a2_4 ((rd_T38 l1 s0_0).f0) ((rd_T38 l1 s0_0).f1) ((rd_T38 l1 s0_0).f3) ((rd_T38 l1 s0_0).f4) ((rd_T38 l1 s0_0).f5) ((rd_T38 l1 s0_0).f6) ((rd_T38 l1 s0_0).f7)) else (partitaref10_Walk_on.j0 k false s0_0 s0_1 s0_2 s0_3 s0_4 s0_5 s0_6 s0_7 a2_0 a2_1 a2_2 a2_3 a2_4 ((rd_T38 l1 s0_0).f0) ((rd_T38 l1 s0_0).f1) ((rd_T38 l1 s0_0).f3) ((rd_T38 l1 s0_0).f4) ((rd_T38 l1 s0_0).f5) ((rd_T38 l1 s0_0).f6) ((rd_T38 l1 s0_0).f7))) else (none)) else (none)
theorem partitaref10_Walk_on.mono_l : ∀ k, (∀ y0 y1 y2 y3 y4 y5 y6 y7 y8 y9 y10 y11 y12 y13 y14 y15 y16 y17 y18 y19 y20, LeO (partitaref10_Walk_on.j0 k y0 y1 y2 y3 y4 y5 y6 y7 y8 y9 y10 y11 y12 y13 y14 y15 y16 y17 y18 y19 y20) (partitaref10_Walk_on.j0 (k + 1) y0 y1 y2 y3 y4 y5 y6 y7 y8 y9 y10 y11 y12 y13 y14 y15 y16 y17 y18 y19 y20)) ∧ (∀ y0 y1 y2 y3 y4 y5 y6 y7 y8 y9 y10 y11 y12 y13 y14 y15 y16 y17 y18 y19 y20, LeO (partitaref10_Walk_on.j1 k y0 y1 y2 y3 y4 y5 y6 y7 y8 y9 y10 y11 y12 y13 y14 y15 y16 y17 y18 y19 y20) (partitaref10_Walk_on.j1 (k + 1) y0 y1 y2 y3 y4 y5 y6 y7 y8 y9 y10 y11 y12 y13 y14 y15 y16 y17 y18 y19 y20)) ∧ (∀ y0 y1 y2 y3 y4 y5 y6 y7 y8 y9 y10 y11 y12 y13 y14 y15 y16 y17 y18 y19 y20, LeO (partitaref10_Walk_on.j2 k y0 y1 y2 y3 y4 y5 y6 y7 y8 y9 y10 y11 y12 y13 y14 y15 y16 y17 y18 y19 y20) (partitaref10_Walk_on.j2 (k + 1) y0 y1 y2 y3 y4 y5 y6 y7 y8 y9 y10 y11 y12 y13 y14 y15 y16 y17 y18 y19 y20)) ∧ (∀ y0 y1 y2 y3 y4 y5 y6 y7 y8 y9 y10 y11 y12 y13 y14 y15 y16 y17 y18 y19, LeO (partitaref10_Walk_on.j3 k y0 y1 y2 y3 y4 y5 y6 y7 y8 y9 y10 y11 y12 y13 y14 y15 y16 y17 y18 y19) (partitaref10_Walk_on.j3 (k + 1) y0 y1 y2 y3 y4 y5 y6 y7 y8 y9 y10 y11 y12 y13 y14 y15 y16 y17 y18 y19)) ∧ (∀ y0 y1 y2 y3 y4 y5 y6 y7 y8 y9 y10 y11 y12 y13 y14 y15 y16 y17 y18 y19 y20, LeO (partitaref10_Walk_on.j4 k y0 y1 y2 y3 y4 y5 y6 y7 y8 y9 y10 y11 y12 y13 y14 y15 y16 y17 y18 y19 y20) (partitaref10_Walk_on.j4 (k + 1) y0 y1 y2 y3 y4 y5 y6 y7 y8 y9 y10 y11 y12 y13 y14 y15 y16 y17 y18 y19 y20))
  | 0 => ⟨fun _ _ _ _ _ _ _ _ _ _ _ _ _ _ _ _ _ _ _ _ _ r h => by simp [partitaref10_Walk_on.j0] at h, fun _ _ _ _ _ _ _ _ _ _ _ _ _ _ _ _ _ _ _ _ _ r h => by simp [partitaref10_Walk_on.j1] at h, fun _ _ _ _ _ _ _ _ _ _ _ _ _ _ _ _ _ _ _ _ _ r h => by simp [partitaref10_Walk_on.j2] at h, fun _ _ _ _ _ _ _ _ _ _ _ _ _ _ _ _ _ _ _ _ r h => by simp [partitaref10_Walk_on.j3] at h, fun _ _ _ _ _ _ _ _ _ _ _ _ _ _ _ _ _ _ _ _ _ r h => by simp [partitaref10_Walk_on.j4] at h⟩
  | k + 1 => by
    obtain ⟨ih0, ih1, ih2, ih3, ih4⟩ := partitaref10_Walk_on.mono_l k
    refine ⟨?_, ?_, ?_, ?_, ?_⟩
    · intro y0 y1 y2 y3 y4 y5 y6 y7 y8 y9 y10 y11 y12 y13 y14 y15 y16 y17 y18 y19 y20
      unfold partitaref10_Walk_on.j0
      repeat' first
      | (with_reducible exact ih0 _ _ _ _ _ _ _ _ _ _ _ _ _ _ _ _ _ _ _ _ _)
      | (with_reducible exact ih1 _ _ _ _ _ _ _ _ _ _ _ _ _ _ _ _ _ _ _ _ _)
      | (with_reducible exact ih2 _ _ _ _ _ _ _ _ _ _ _ _ _ _ _ _ _ _ _ _ _)
      | (with_reducible exact ih3 _ _ _ _ _ _ _ _ _ _ _ _ _ _ _ _ _ _ _ _)
      | (with_reducible exact ih4 _ _ _ _ _ _ _ _ _ _ _ _ _ _ _ _ _ _ _ _ _)
      | (with_reducible exact LeO.refl _)
      | (with_reducible exact LeO.none _)
      | (with_reducible refine LeO.ite ?_ ?_)
      | (with_reducible refine LeO.bind ?_ (fun _ => ?_))
      | exact ih0 _ _ _ _ _ _ _ _ _ _ _ _ _ _ _ _ _ _ _ _ _
      | exact ih1 _ _ _ _ _ _ _ _ _ _ _ _ _ _ _ _ _ _ _ _ _
      | exact ih2 _ _ _ _ _ _ _ _ _ _ _ _ _ _ _ _ _ _ _ _ _
      | exact ih3 _ _ _ _ _ _ _ _ _ _ _ _ _ _ _ _ _ _ _ _
      | exact ih4 _ _ _ _ _ _ _ _ _ _ _ _ _ _ _ _ _ _ _ _ _
      | exact LeO.none _
      | refine LeO.ite ?_ ?_
      | refine LeO.bind ?_ (fun _ => ?_)
    · intro y0 y1 y2 y3 y4 y5 y6 y7 y8 y9 y10 y11 y12 y13 y14 y15 y16 y17 y18 y19 y20
      unfold partitaref10_Walk_on.j1
      repeat' first
      | (with_reducible exact ih0 _ _ _ _ _ _ _ _ _ _ _ _ _ _ _ _ _ _ _ _ _)
      | (with_reducible exact ih1 _ _ _ _ _ _ _ _ _ _ _ _ _ _ _ _ _ _ _ _ _)
      | (with_reducible exact ih2 _ _ _ _ _ _ _ _ _ _ _ _ _ _ _ _ _ _ _ _ _)
      | (with_reducible exact ih3 _ _ _ _ _ _ _ _ _ _ _ _ _ _ _ _ _ _ _ _)
      | (with_reducible exact ih4 _ _ _ _ _ _ _ _ _ _ _ _ _ _ _ _ _ _ _ _ _)
      | (with_reducible exact LeO.refl _)
      | (with_reducible exact LeO.none _)
      | (with_reducible refine LeO.ite ?_ ?_)
      | (with_reducible refine LeO.bind ?_ (fun _ => ?_))
      | exact ih0 _ _ _ _ _ _ _ _ _ _ _ _ _ _ _ _ _ _ _ _ _
      | exact ih1 _ _ _ _ _ _ _ _ _ _ _ _ _ _ _ _ _ _ _ _ _
      | exact ih2 _ _ _ _ _ _ _ _ _ _ _ _ _ _ _ _ _ _ _ _ _
      | exact ih3 _ _ _ _ _ _ _ _ _ _ _ _ _ _ _ _ _ _ _ _
      | exact ih4 _ _ _ _ _ _ _ _ _ _ _ _ _ _ _ _ _ _ _ _ _
      | exact LeO.none _
      | refine LeO.ite ?_ ?_
      | refine LeO.bind ?_ (fun _ => ?_)
    · intro y0 y1 y2 y3 y4 y5 y6 y7 y8 y9 y10 y11 y12 y13 y14 y15 y16 y17 y18 y19 y20
      unfold partitaref10_Walk_on.j2
      repeat' first
      | (with_reducible exact ih0 _ _ _ _ _ _ _ _ _ _ _ _ _ _ _ _ _ _ _ _ _)
      | (with_reducible exact ih1 _ _ _ _ _ _ _ _ _ _ _ _ _ _ _ _ _ _ _ _ _)
      | (with_reducible exact ih2 _ _ _ _ _ _ _ _ _ _ _ _ _ _ _ _ _ _ _ _ _)
      | (with_reducible exact ih3 _ _ _ _ _ _ _ _ _ _ _ _ _ _ _ _ _ _ _ _)
      | (with_reducible exact ih4 _ _ _ _ _ _ _ _ _ _ _ _ _ _ _ _ _ _ _ _ _)
      | (with_reducible exact LeO.refl _)
      | (with_reducible exact LeO.none _)
      | (with_reducible refine LeO.ite ?_ ?_)
      | (with_reducible refine LeO.bind ?_ (fun _ => ?_))
      | exact ih0 _ _ _ _ _ _ _ _ _ _ _ _ _ _ _ _ _ _ _ _ _
      | exact ih1 _ _ _ _ _ _ _ _ _ _ _ _ _ _ _ _ _ _ _ _ _
      | exact ih2 _ _ _ _ _ _ _ _ _ _ _ _ _ _ _ _ _ _ _ _ _
      | exact ih3 _ _ _ _ _ _ _ _ _ _ _ _ _ _ _ _ _ _ _ _
      | exact ih4 _ _ _ _ _ _ _ _ _ _ _ _ _ _ _ _ _ _ _ _ _
      | exact LeO.none _
      | refine LeO.ite ?_ ?_
      | refine LeO.bind ?_ (fun _ => ?_)
    · intro y0 y1 y2 y3 y4 y5 y6 y7 y8 y9 y10 y11 y12 y13 y14 y15 y16 y17 y18 y19
      unfold partitaref10_Walk_on.j3
      repeat' first
      | (with_reducible exact ih0 _ _ _ _ _ _ _ _ _ _ _ _ _ _ _ _ _ _ _ _ _)
      | (with_reducible exact ih1 _ _ _ _ _ _ _ _ _ _ _ _ _ _ _ _ _ _ _ _ _)
      | (with_reducible exact ih2 _ _ _ _ _ _ _ _ _ _ _ _ _ _ _ _ _ _ _ _ _)
      | (with_reducible exact ih3 _ _ _ _ _ _ _ _ _ _ _ _ _ _ _ _ _ _ _ _)
      | (with_reducible exact ih4 _ _ _ _ _ _ _ _ _ _ _ _ _ _ _ _ _ _ _ _ _)
      | (with_reducible exact LeO.refl _)
      | (with_reducible exact LeO.none _)
      | (with_reducible refine LeO.ite ?_ ?_)
      | (with_reducible refine LeO.bind ?_ (fun _ => ?_))
      | exact ih0 _ _ _ _ _ _ _ _ _ _ _ _ _ _ _ _ _ _ _ _ _
      | exact ih1 _ _ _ _ _ _ _ _ _ _ _ _ _ _ _ _ _ _ _ _ _
      | exact ih2 _ _ _ _ _ _ _ _ _ _ _ _ _ _ _ _ _ _ _ _ _
      | exact ih3 _ _ _ _ _ _ _ _ _ _ _ _ _ _ _ _ _ _ _ _
      | exact ih4 _ _ _ _ _ _ _ _ _ _ _ _ _ _ _ _ _ _ _ _ _
      | exact LeO.none _
      | refine LeO.ite ?_ ?_
      | refine LeO.bind ?_ (fun _ => ?_)
    · intro y0 y1 y2 y3 y4 y5 y6 y7 y8 y9 y10 y11 y12 y13 y14 y15 y16 y17 y18 y19 y20
      unfold partitaref10_Walk_on.j4
      repeat' first
      | (with_reducible exact ih0 _ _ _ _ _ _ _ _ _ _ _ _ _ _ _ _ _ _ _ _ _)
      | (with_reducible exact ih1 _ _ _ _ _ _ _ _ _ _ _ _ _ _ _ _ _ _ _ _ _)
      | (with_reducible exact ih2 _ _ _ _ _ _ _ _ _ _ _ _ _ _ _ _ _ _ _ _ _)
      | (with_reducible exact ih3 _ _ _ _ _ _ _ _ _ _ _ _ _ _ _ _ _ _ _ _)
      | (with_reducible exact ih4 _ _ _ _ _ _ _ _ _ _ _ _ _ _ _ _ _ _ _ _ _)
      | (with_reducible exact LeO.refl _)
      | (with_reducible exact LeO.none _)
      | (with_reducible refine LeO.ite ?_ ?_)
      | (with_reducible refine LeO.bind ?_ (fun _ => ?_))
      | exact ih0 _ _ _ _ _ _ _ _ _ _ _ _ _ _ _ _ _ _ _ _ _
      | exact ih1 _ _ _ _ _ _ _ _ _ _ _ _ _ _ _ _ _ _ _ _ _
      | exact ih2 _ _ _ _ _ _ _ _ _ _ _ _ _ _ _ _ _ _ _ _ _
      | exact ih3 _ _ _ _ _ _ _ _ _ _ _ _ _ _ _ _ _ _ _ _
      | exact ih4 _ _ _ _ _ _ _ _ _ _ _ _ _ _ _ _ _ _ _ _ _
      | exact LeO.none _
      | refine LeO.ite ?_ ?_
      | refine LeO.bind ?_ (fun _ => ?_)
theorem partitaref10_Walk_on.mono : ∀ a0 a1 a2 a3 a4 a5 a6 a7 a8 a9 a10 a11 a12 a13 k, LeO (partitaref10_Walk_on.f k a0 a1 a2 a3 a4 a5 a6 a7 a8 a9 a10 a11 a12 a13) (partitaref10_Walk_on.f (k + 1) a0 a1 a2 a3 a4 a5 a6 a7 a8 a9 a10 a11 a12 a13) := by
  intro a0 a1 a2 a3 a4 a5 a6 a7 a8 a9 a10 a11 a12 a13 k
  obtain ⟨ih0, ih1, ih2, ih3, ih4⟩ := partitaref10_Walk_on.mono_l k
  unfold partitaref10_Walk_on.f
  repeat' first
      | (with_reducible exact ih0 _ _ _ _ _ _ _ _ _ _ _ _ _ _ _ _ _ _ _ _ _)
      | (with_reducible exact ih1 _ _ _ _ _ _ _ _ _ _ _ _ _ _ _ _ _ _ _ _ _)
      | (with_reducible exact ih2 _ _ _ _ _ _ _ _ _ _ _ _ _ _ _ _ _ _ _ _ _)
      | (with_reducible exact ih3 _ _ _ _ _ _ _ _ _ _ _ _ _ _ _ _ _ _ _ _)
      | (with_reducible exact ih4 _ _ _ _ _ _ _ _ _ _ _ _ _ _ _ _ _ _ _ _ _)
      | (with_reducible exact LeO.refl _)
      | (with_reducible exact LeO.none _)
      | (with_reducible refine LeO.ite ?_ ?_)
      | (with_reducible refine LeO.bind ?_ (fun _ => ?_))
      | exact ih0 _ _ _ _ _ _ _ _ _ _ _ _ _ _ _ _ _ _ _ _ _
      | exact ih1 _ _ _ _ _ _ _ _ _ _ _ _ _ _ _ _ _ _ _ _ _
      | exact ih2 _ _ _ _ _ _ _ _ _ _ _ _ _ _ _ _ _ _ _ _ _
      | exact ih3 _ _ _ _ _ _ _ _ _ _ _ _ _ _ _ _ _ _ _ _
      | exact ih4 _ _ _ _ _ _ _ _ _ _ _ _ _ _ _ _ _ _ _ _ _
      | exact LeO.none _
      | refine LeO.ite ?_ ?_
      | refine LeO.bind ?_ (fun _ => ?_)
set_option maxHeartbeats 8000000 in
set_option maxRecDepth 100000 in
theorem partitaref10_Walk_on.calls (k : Nat) (g : Nat) (s0_0 : Int) (s0_1 : Int) (s0_2 : Int) (s0_3 : Bool) (s0_4 : Bool) (s0_5 : Bool) (s0_6 : Bool) (s0_7 : Bool) (A1 : Option Addr) (c1 : Nat) (l1 : List (S38)) (a2_0 : Int) (a2_1 : Int) (a2_2 : Int) (a2_3 : Bool) (a2_4 : Bool) (r1 : Int) (r2 : Int) (r3 : Int) (r4 : Bool) (r5 : Bool) (r6 : Bool) (r7 : Bool) (r8 : Bool) (w0 w : World) (hI : IsS64 w0 w g s0_0 s0_1 s0_2 s0_3 s0_4 s0_5 s0_6 s0_7) (hB : Below w0.heap.size w0 w) (hr1 : ∀ W_, KeepBut w W_ g none → Kd.C k38 W_ A1 l1.length l1) (hc1 : l1.length ≤ c1) (h : partitaref10_Walk_on.f k s0_0 s0_1 s0_2 s0_3 s0_4 s0_5 s0_6 s0_7 l1 a2_0 a2_1 a2_2 a2_3 a2_4 = some (r1, r2, r3, r4, r5, r6, r7, r8)) :
    Calls Try.prog 45 #[.pointer (some ⟨g, 0, none⟩), .slice A1 l1.length c1, .agg #[.int .i64 a2_0, .int .i64 a2_1, .int .i64 a2_2, .bool a2_3, .bool a2_4]] w fun e w' => e = .returned (.tuple #[]) ∧ IsS64 w0 w' g r1 r2 r3 r4 r5 r6 r7 r8 ∧ Below w0.heap.size w0 w' ∧ KeepBut w w' g none := by
  have hu55 := Try.underlying55
  have hu38 := Try.underlying38
  have HR1 := Aside0.mk hr1
  have HC1 := Aside0.mk hc1
  clear hr1 hc1
  have HI0 := Aside0.mk hI
  have HK := Aside0.mk (KeepBut.refl w g none)
  have HL := Aside0.mk hB.size
  clear hI
  have HW0 := Aside0.mk hB.size
  have HB := Aside0.mk hB
  clear hB
  have H := h
  unfold partitaref10_Walk_on.f at H
  clear h
  by_cases c4 : 0 ≤ s0_0
  rotate_left
  · rw [if_neg c4] at H
    exact absurd H (by simp)
  rw [if_pos c4] at H
  have c4b0 : decide (0 ≤ s0_0) = true := decide_eq_true c4
  clear c4
  by_cases c5 : s0_0 < (l1.length : Int)
  rotate_left
  · rw [if_neg c5] at H
    exact absurd H (by simp)
  rw [if_pos c5] at H
  have c5b0 : decide (s0_0 < (l1.length : Int)) = true := decide_eq_true c5
  clear c5
  have HC6 := Aside0.mk H
  clear H
  go_enter Try.func45, Try.ntmps45
  go_upto_region 11 with (first | ((with_reducible refine gate_dst (N := 5) rfl ?_); refine box_event ?hg (N := 5) ?hd (cs := #[.int .i64 a2_0, .int .i64 a2_1, .int .i64 a2_2, .bool a2_3, .bool a2_4]) (t := 55) ?hr ?_; (case hd => rfl); (case hg => rfl); (case hr => exact qqj); intro gb101 hg w7 hbox hb; replace HB := Aside0.mk (below_step (by repeat (first | (with_reducible first | exact HB.out | apply below_alloc | apply pw_below_drewN | apply below_drew1 | refine below_set ?_ (IsS64.ge HI0.out)) | exact HB.out)) hb); have BK101 := Aside0.mk (hbox); have GW101 := Aside0.mk ((by rw [hg]; exact (keep_size (w := w) (g := g) (row := none) qq8) : w.heap.size ≤ gb101)); have GE101 := Aside0.mk ((Nat.le_trans HW0.out (by rw [hg]; exact (keep_size (w := w) (g := g) (row := none) qq8) : w.heap.size ≤ gb101) : w0.heap.size ≤ gb101)); replace HK := Aside0.mk (KeepBut.trans qq8 (KeepBut.of_below hb g none) (.inl rfl)); have NB0_101 := Aside0.mk ((by rw [hg]; exact Nat.ne_of_lt (IsS64.lt (show IsS64 w0 _ g s0_0 s0_1 s0_2 s0_3 s0_4 s0_5 s0_6 s0_7 from by repeat (first | (with_reducible first | exact HI0.out | apply IsS64.alloc | apply IsS64.drewN | apply IsS64.drew | apply IsS64.set_0 | apply IsS64.set_1 | apply IsS64.set_2 | apply IsS64.set_3 | apply IsS64.set_4 | apply IsS64.set_5 | apply IsS64.set_6 | apply IsS64.set_7) | exact HI0.out))) : g ≠ gb101)); have NB101_0 := Aside0.mk ((by rw [hg]; exact Nat.ne_of_gt (IsS64.lt (show IsS64 w0 _ g s0_0 s0_1 s0_2 s0_3 s0_4 s0_5 s0_6 s0_7 from by repeat (first | (with_reducible first | exact HI0.out | apply IsS64.alloc | apply IsS64.drewN | apply IsS64.drew | apply IsS64.set_0 | apply IsS64.set_1 | apply IsS64.set_2 | apply IsS64.set_3 | apply IsS64.set_4 | apply IsS64.set_5 | apply IsS64.set_6 | apply IsS64.set_7) | exact HI0.out))) : gb101 ≠ g)); replace HI0 := Aside0.mk (IsS64.below qq5 hb); clear hb hbox hg; have hz8 := cells8 HI0.out.1; have p102 : 0 ≤ (s0_0 : Int) := of_decide_eq_true qq0; have q102 : s0_0 < (l1.length : Int) := of_decide_eq_true qq0; obtain ⟨ad102, A102_2, c102_2, e102, hx102_0, hx102_1, hx102_2, hx102_3, hx102_4, hx102_5, hx102_6, hx102_7, hl102_2, hi102_2⟩ := at_T38 (Kd.C_foot_now HR1.out HK.out) s0_0 p102 q102; cases e102; have HR102_2 := Aside0.mk hi102_2; have HC102_2 := Aside0.mk hl102_2; clear hi102_2 hl102_2; replace p102 := eq_true p102; replace q102 := eq_true q102) | ((with_reducible refine gate_dst (N := 6) rfl ?_); refine box_event ?hg (N := 6) ?hd (cs := #[.bool false, .int .i64 0, .slice none 0 0, .bool false, .bool false, .bool false, .bool false, .int .i64 0]) (t := 38) ?hr ?_; (case hd => rfl); (case hg => rfl); (case hr => exact qqj); intro gb103 hg w9 hbox hb; replace HR102_2 := Aside0.mk (Kd.C_below (by repeat (first | (with_reducible exact HR102_2.out) | (with_reducible refine Kd.C_alloc ?_ _) | (with_reducible refine Kd.C_drewN ?_ _) | (with_reducible refine Kd.C_drew ?_) | exact HR102_2.out)) hb); replace HB := Aside0.mk (below_step (by repeat (first | (with_reducible first | exact HB.out | apply below_alloc | apply pw_below_drewN | apply below_drew1 | refine below_set ?_ (IsS64.ge HI0.out) | refine below_set ?_ GE101.out) | exact HB.out)) hb); have BK103 := Aside0.mk (hbox); have GW103 := Aside0.mk ((by rw [hg]; exact (keep_size (w := w) (g := g) (row := none) (by repeat (first | (with_reducible first | exact HK.out | apply KeepBut.set_ | apply keep_drewN | apply keep_drew | apply keep_alloc | refine keep_far ?_ GW101.out _) | exact HK.out))) : w.heap.size ≤ gb103)); have GE103 := Aside0.mk ((Nat.le_trans HW0.out (by rw [hg]; exact (keep_size (w := w) (g := g) (row := none) (by repeat (first | (with_reducible first | exact HK.out | apply KeepBut.set_ | apply keep_drewN | apply keep_drew | apply keep_alloc | refine keep_far ?_ GW101.out _) | exact HK.out))) : w.heap.size ≤ gb103) : w0.heap.size ≤ gb103)); replace HK := Aside0.mk (KeepBut.trans (by repeat (first | (with_reducible first | exact HK.out | apply KeepBut.set_ | apply keep_drewN | apply keep_drew | apply keep_alloc | refine keep_far ?_ GW101.out _) | exact HK.out)) (KeepBut.of_below hb g none) (.inl rfl)); have NB101_103 := Aside0.mk ((qqQ : gb101 ≠ gb103)); have NB103_101 := Aside0.mk ((qqR : gb103 ≠ gb101)); replace BK101 := Aside0.mk (blk_below (bq BK101.out) hb); have NB0_103 := Aside0.mk ((by rw [hg]; exact Nat.ne_of_lt (IsS64.lt (show IsS64 w0 _ g s0_0 s0_1 s0_2 s0_3 s0_4 s0_5 s0_6 s0_7 from by repeat (first | (with_reducible first | exact HI0.out | apply IsS64.alloc | apply IsS64.drewN | apply IsS64.drew | apply IsS64.set_0 | apply IsS64.set_1 | apply IsS64.set_2 | apply IsS64.set_3 | apply IsS64.set_4 | apply IsS64.set_5 | apply IsS64.set_6 | apply IsS64.set_7 | refine IsS64.far ?_ NB0_101.out _) | exact HI0.out))) : g ≠ gb103)); have NB103_0 := Aside0.mk ((by rw [hg]; exact Nat.ne_of_gt (IsS64.lt (show IsS64 w0 _ g s0_0 s0_1 s0_2 s0_3 s0_4 s0_5 s0_6 s0_7 from by repeat (first | (with_reducible first | exact HI0.out | apply IsS64.alloc | apply IsS64.drewN | apply IsS64.drew | apply IsS64.set_0 | apply IsS64.set_1 | apply IsS64.set_2 | apply IsS64.set_3 | apply IsS64.set_4 | apply IsS64.set_5 | apply IsS64.set_6 | apply IsS64.set_7 | refine IsS64.far ?_ NB0_101.out _) | exact HI0.out))) : gb103 ≠ g)); replace HI0 := Aside0.mk (IsS64.below (by repeat (first | (with_reducible first | exact HI0.out | apply IsS64.alloc | apply IsS64.drewN | apply IsS64.drew | apply IsS64.set_0 | apply IsS64.set_1 | apply IsS64.set_2 | apply IsS64.set_3 | apply IsS64.set_4 | apply IsS64.set_5 | apply IsS64.set_6 | apply IsS64.set_7 | refine IsS64.far ?_ NB0_101.out _) | exact HI0.out)) hb); clear hb hbox hg; have hnb10 := NB103_101.out; have hnc10 := NB101_103.out; have hnb11 := NB103_0.out; have hnc11 := NB0_103.out; have hz12 := cells8 BK103.out))
  (try simp only [Act.put, List.setIfInBounds_toArray, List.set_cons_zero, List.set_cons_succ])
  go_cut [66] (fun v66 wc => ∃ (kq : Nat) (x66_5 : Bool), v66 = .bool x66_5 ∧ Aside0 (partitaref10_Walk_on.j0 kq x66_5 s0_0 s0_1 s0_2 s0_3 s0_4 s0_5 s0_6 s0_7 a2_0 a2_1 a2_2 a2_3 a2_4 ((rd_T38 l1 s0_0).f0) ((rd_T38 l1 s0_0).f1) ((rd_T38 l1 s0_0).f3) ((rd_T38 l1 s0_0).f4) ((rd_T38 l1 s0_0).f5) ((rd_T38 l1 s0_0).f6) ((rd_T38 l1 s0_0).f7) = some (r1, r2, r3, r4, r5, r6, r7, r8)) ∧ Aside0 (kq ≤ k) ∧ Aside0 (wc.heap[gb101]? = some (.cells #[.int .i64 a2_0, .int .i64 a2_1, .int .i64 a2_2, .bool a2_3, .bool a2_4] 55 (0, 0))) ∧ Aside0 (wc.heap[gb103]? = some (.cells #[.bool ((rd_T38 l1 s0_0).f0), .int .i64 ((rd_T38 l1 s0_0).f1), .slice A102_2 ((rd_T38 l1 s0_0).f2).length c102_2, .bool ((rd_T38 l1 s0_0).f3), .bool ((rd_T38 l1 s0_0).f4), .bool ((rd_T38 l1 s0_0).f5), .bool ((rd_T38 l1 s0_0).f6), .int .i64 ((rd_T38 l1 s0_0).f7)] 38 (0, 0))) ∧ Aside0 (IsS64 w0 wc g s0_0 s0_1 s0_2 s0_3 s0_4 s0_5 s0_6 s0_7) ∧ Aside0 (KeepBut w wc g none) ∧ Aside0 (Below w0.heap.size w0 wc))
  case first =>
    have H := HC6.out
    clear HC6
    by_cases c13 : s0_5 = true
    rotate_left
    · replace c13 := Bool.eq_false_iff.mpr c13
      subst c13
      have H1 : (partitaref10_Walk_on.j0 k false s0_0 s0_1 s0_2 s0_3 s0_4 false s0_6 s0_7 a2_0 a2_1 a2_2 a2_3 a2_4 ((rd_T38 l1 s0_0).f0) ((rd_T38 l1 s0_0).f1) ((rd_T38 l1 s0_0).f3) ((rd_T38 l1 s0_0).f4) ((rd_T38 l1 s0_0).f5) ((rd_T38 l1 s0_0).f6) ((rd_T38 l1 s0_0).f7)) = some (r1, r2, r3, r4, r5, r6, r7, r8) := by rw [if_neg (show ¬ (false = true) by decide)] at H; exact H
      clear H
      have H := H1
      clear H1
      have H' := Aside0.mk H
      clear H
      have hz18 := cells8 HI0.out.1
      go_wp2
      go_meet
      case rel => exact ⟨_, (false), qq3, H', ⟨qqn⟩, ⟨by (with_reducible repeat (first | refine blk_drewN ?_ _ | refine blk_drew ?_ | refine blk_alloc ?_ _)); refine blk_far ?_ NB101_103.out _; (with_reducible repeat (first | refine blk_drewN ?_ _ | refine blk_drew ?_ | refine blk_alloc ?_ _)); refine blk_far ?_ NB101_103.out _; (with_reducible repeat (first | refine blk_drewN ?_ _ | refine blk_drew ?_ | refine blk_alloc ?_ _)); refine blk_far ?_ NB101_103.out _; (with_reducible repeat (first | refine blk_drewN ?_ _ | refine blk_drew ?_ | refine blk_alloc ?_ _)); refine blk_far ?_ NB101_103.out _; (with_reducible repeat (first | refine blk_drewN ?_ _ | refine blk_drew ?_ | refine blk_alloc ?_ _)); refine blk_far ?_ NB101_103.out _; (with_reducible repeat (first | refine blk_drewN ?_ _ | refine blk_drew ?_ | refine blk_alloc ?_ _)); refine blk_far ?_ NB101_103.out _; (with_reducible repeat (first | refine blk_drewN ?_ _ | refine blk_drew ?_ | refine blk_alloc ?_ _)); refine blk_far ?_ NB101_103.out _; (with_reducible repeat (first | refine blk_drewN ?_ _ | refine blk_drew ?_ | refine blk_alloc ?_ _)); refine blk_far ?_ NB101_103.out _; (with_reducible repeat (first | refine blk_drewN ?_ _ | refine blk_drew ?_ | refine blk_alloc ?_ _)); exact BK101.out⟩, ⟨by (with_reducible repeat (first | refine blk_drewN ?_ _ | refine blk_drew ?_ | refine blk_alloc ?_ _)); refine blk_put (cs := #[.bool ((rd_T38 l1 s0_0).f0), .int .i64 ((rd_T38 l1 s0_0).f1), .slice A102_2 ((rd_T38 l1 s0_0).f2).length c102_2, .bool ((rd_T38 l1 s0_0).f3), .bool ((rd_T38 l1 s0_0).f4), .bool ((rd_T38 l1 s0_0).f5), .bool ((rd_T38 l1 s0_0).f6), .int .i64 0]) ?_ 7 _ rfl; (with_reducible repeat (first | refine blk_drewN ?_ _ | refine blk_drew ?_ | refine blk_alloc ?_ _)); refine blk_put (cs := #[.bool ((rd_T38 l1 s0_0).f0), .int .i64 ((rd_T38 l1 s0_0).f1), .slice A102_2 ((rd_T38 l1 s0_0).f2).length c102_2, .bool ((rd_T38 l1 s0_0).f3), .bool ((rd_T38 l1 s0_0).f4), .bool ((rd_T38 l1 s0_0).f5), .bool false, .int .i64 0]) ?_ 6 _ rfl; (with_reducible repeat (first | refine blk_drewN ?_ _ | refine blk_drew ?_ | refine blk_alloc ?_ _)); refine blk_put (cs := #[.bool ((rd_T38 l1 s0_0).f0), .int .i64 ((rd_T38 l1 s0_0).f1), .slice A102_2 ((rd_T38 l1 s0_0).f2).length c102_2, .bool ((rd_T38 l1 s0_0).f3), .bool ((rd_T38 l1 s0_0).f4), .bool false, .bool false, .int .i64 0]) ?_ 5 _ rfl; (with_reducible repeat (first | refine blk_drewN ?_ _ | refine blk_drew ?_ | refine blk_alloc ?_ _)); refine blk_put (cs := #[.bool ((rd_T38 l1 s0_0).f0), .int .i64 ((rd_T38 l1 s0_0).f1), .slice A102_2 ((rd_T38 l1 s0_0).f2).length c102_2, .bool ((rd_T38 l1 s0_0).f3), .bool false, .bool false, .bool false, .int .i64 0]) ?_ 4 _ rfl; (with_reducible repeat (first | refine blk_drewN ?_ _ | refine blk_drew ?_ | refine blk_alloc ?_ _)); refine blk_put (cs := #[.bool ((rd_T38 l1 s0_0).f0), .int .i64 ((rd_T38 l1 s0_0).f1), .slice A102_2 ((rd_T38 l1 s0_0).f2).length c102_2, .bool false, .bool false, .bool false, .bool false, .int .i64 0]) ?_ 3 _ rfl; (with_reducible repeat (first | refine blk_drewN ?_ _ | refine blk_drew ?_ | refine blk_alloc ?_ _)); refine blk_put (cs := #[.bool ((rd_T38 l1 s0_0).f0), .int .i64 ((rd_T38 l1 s0_0).f1), .slice none 0 0, .bool false, .bool false, .bool false, .bool false, .int .i64 0]) ?_ 2 _ rfl; (with_reducible repeat (first | refine blk_drewN ?_ _ | refine blk_drew ?_ | refine blk_alloc ?_ _)); refine blk_put (cs := #[.bool ((rd_T38 l1 s0_0).f0), .int .i64 0, .slice none 0 0, .bool false, .bool false, .bool false, .bool false, .int .i64 0]) ?_ 1 _ rfl; (with_reducible repeat (first | refine blk_drewN ?_ _ | refine blk_drew ?_ | refine blk_alloc ?_ _)); refine blk_put (cs := #[.bool false, .int .i64 0, .slice none 0 0, .bool false, .bool false, .bool false, .bool false, .int .i64 0]) ?_ 0 _ rfl; (with_reducible repeat (first | refine blk_drewN ?_ _ | refine blk_drew ?_ | refine blk_alloc ?_ _)); exact BK103.out⟩, ⟨by repeat (first | (with_reducible first | exact HI0.out | apply IsS64.alloc | apply IsS64.drewN | apply IsS64.drew | apply IsS64.set_0 | apply IsS64.set_1 | apply IsS64.set_2 | apply IsS64.set_3 | apply IsS64.set_4 | apply IsS64.set_5 | apply IsS64.set_6 | apply IsS64.set_7 | refine IsS64.far ?_ NB0_101.out _ | refine IsS64.far ?_ NB0_103.out _) | exact HI0.out)⟩, ⟨by repeat (first | (with_reducible first | exact HK.out | apply KeepBut.set_ | apply keep_drewN | apply keep_drew | apply keep_alloc | refine keep_far ?_ GW101.out _ | refine keep_far ?_ GW103.out _) | exact HK.out)⟩, ⟨by repeat (first | (with_reducible first | exact HB.out | apply below_alloc | apply pw_below_drewN | apply below_drew1 | refine below_set ?_ (IsS64.ge HI0.out) | refine below_set ?_ GE101.out | refine below_set ?_ GE103.out) | exact HB.out)⟩⟩
    subst c13
    have H1 : (partitaref10_Walk_on.j0 k ((rd_T38 l1 s0_0).f6) s0_0 s0_1 s0_2 s0_3 s0_4 true s0_6 s0_7 a2_0 a2_1 a2_2 a2_3 a2_4 ((rd_T38 l1 s0_0).f0) ((rd_T38 l1 s0_0).f1) ((rd_T38 l1 s0_0).f3) ((rd_T38 l1 s0_0).f4) ((rd_T38 l1 s0_0).f5) ((rd_T38 l1 s0_0).f6) ((rd_T38 l1 s0_0).f7)) = some (r1, r2, r3, r4, r5, r6, r7, r8) := by rw [if_pos rfl] at H; exact H
    clear H
    have H := H1
    clear H1
    have H' := Aside0.mk H
    clear H
    have hz14 := cells8 HI0.out.1
    have hnb15 := NB103_101.out
    have hnc15 := NB101_103.out
    have hnb16 := NB103_0.out
    have hnc16 := NB0_103.out
    have hz17 := cells8 BK103.out
    go_wp2
    go_meet
    case rel => exact ⟨_, ((rd_T38 l1 s0_0).f6), qq3, H', ⟨qqn⟩, ⟨by (with_reducible repeat (first | refine blk_drewN ?_ _ | refine blk_drew ?_ | refine blk_alloc ?_ _)); refine blk_far ?_ NB101_103.out _; (with_reducible repeat (first | refine blk_drewN ?_ _ | refine blk_drew ?_ | refine blk_alloc ?_ _)); refine blk_far ?_ NB101_103.out _; (with_reducible repeat (first | refine blk_drewN ?_ _ | refine blk_drew ?_ | refine blk_alloc ?_ _)); refine blk_far ?_ NB101_103.out _; (with_reducible repeat (first | refine blk_drewN ?_ _ | refine blk_drew ?_ | refine blk_alloc ?_ _)); refine blk_far ?_ NB101_103.out _; (with_reducible repeat (first | refine blk_drewN ?_ _ | refine blk_drew ?_ | refine blk_alloc ?_ _)); refine blk_far ?_ NB101_103.out _; (with_reducible repeat (first | refine blk_drewN ?_ _ | refine blk_drew ?_ | refine blk_alloc ?_ _)); refine blk_far ?_ NB101_103.out _; (with_reducible repeat (first | refine blk_drewN ?_ _ | refine blk_drew ?_ | refine blk_alloc ?_ _)); refine blk_far ?_ NB101_103.out _; (with_reducible repeat (first | refine blk_drewN ?_ _ | refine blk_drew ?_ | refine blk_alloc ?_ _)); refine blk_far ?_ NB101_103.out _; (with_reducible repeat (first | refine blk_drewN ?_ _ | refine blk_drew ?_ | refine blk_alloc ?_ _)); exact BK101.out⟩, ⟨by (with_reducible repeat (first | refine blk_drewN ?_ _ | refine blk_drew ?_ | refine blk_alloc ?_ _)); refine blk_put (cs := #[.bool ((rd_T38 l1 s0_0).f0), .int .i64 ((rd_T38 l1 s0_0).f1), .slice A102_2 ((rd_T38 l1 s0_0).f2).length c102_2, .bool ((rd_T38 l1 s0_0).f3), .bool ((rd_T38 l1 s0_0).f4), .bool ((rd_T38 l1 s0_0).f5), .bool ((rd_T38 l1 s0_0).f6), .int .i64 0]) ?_ 7 _ rfl; (with_reducible repeat (first | refine blk_drewN ?_ _ | refine blk_drew ?_ | refine blk_alloc ?_ _)); refine blk_put (cs := #[.bool ((rd_T38 l1 s0_0).f0), .int .i64 ((rd_T38 l1 s0_0).f1), .slice A102_2 ((rd_T38 l1 s0_0).f2).length c102_2, .bool ((rd_T38 l1 s0_0).f3), .bool ((rd_T38 l1 s0_0).f4), .bool ((rd_T38 l1 s0_0).f5), .bool false, .int .i64 0]) ?_ 6 _ rfl; (with_reducible repeat (first | refine blk_drewN ?_ _ | refine blk_drew ?_ | refine blk_alloc ?_ _)); refine blk_put (cs := #[.bool ((rd_T38 l1 s0_0).f0), .int .i64 ((rd_T38 l1 s0_0).f1), .slice A102_2 ((rd_T38 l1 s0_0).f2).length c102_2, .bool ((rd_T38 l1 s0_0).f3), .bool ((rd_T38 l1 s0_0).f4), .bool false, .bool false, .int .i64 0]) ?_ 5 _ rfl; (with_reducible repeat (first | refine blk_drewN ?_ _ | refine blk_drew ?_ | refine blk_alloc ?_ _)); refine blk_put (cs := #[.bool ((rd_T38 l1 s0_0).f0), .int .i64 ((rd_T38 l1 s0_0).f1), .slice A102_2 ((rd_T38 l1 s0_0).f2).length c102_2, .bool ((rd_T38 l1 s0_0).f3), .bool false, .bool false, .bool false, .int .i64 0]) ?_ 4 _ rfl; (with_reducible repeat (first | refine blk_drewN ?_ _ | refine blk_drew ?_ | refine blk_alloc ?_ _)); refine blk_put (cs := #[.bool ((rd_T38 l1 s0_0).f0), .int .i64 ((rd_T38 l1 s0_0).f1), .slice A102_2 ((rd_T38 l1 s0_0).f2).length c102_2, .bool false, .bool false, .bool false, .bool false, .int .i64 0]) ?_ 3 _ rfl; (with_reducible repeat (first | refine blk_drewN ?_ _ | refine blk_drew ?_ | refine blk_alloc ?_ _)); refine blk_put (cs := #[.bool ((rd_T38 l1 s0_0).f0), .int .i64 ((rd_T38 l1 s0_0).f1), .slice none 0 0, .bool false, .bool false, .bool false, .bool false, .int .i64 0]) ?_ 2 _ rfl; (with_reducible repeat (first | refine blk_drewN ?_ _ | refine blk_drew ?_ | refine blk_alloc ?_ _)); refine blk_put (cs := #[.bool ((rd_T38 l1 s0_0).f0), .int .i64 0, .slice none 0 0, .bool false, .bool false, .bool false, .bool false, .int .i64 0]) ?_ 1 _ rfl; (with_reducible repeat (first | refine blk_drewN ?_ _ | refine blk_drew ?_ | refine blk_alloc ?_ _)); refine blk_put (cs := #[.bool false, .int .i64 0, .slice none 0 0, .bool false, .bool false, .bool false, .bool false, .int .i64 0]) ?_ 0 _ rfl; (with_reducible repeat (first | refine blk_drewN ?_ _ | refine blk_drew ?_ | refine blk_alloc ?_ _)); exact BK103.out⟩, ⟨by repeat (first | (with_reducible first | exact HI0.out | apply IsS64.alloc | apply IsS64.drewN | apply IsS64.drew | apply IsS64.set_0 | apply IsS64.set_1 | apply IsS64.set_2 | apply IsS64.set_3 | apply IsS64.set_4 | apply IsS64.set_5 | apply IsS64.set_6 | apply IsS64.set_7 | refine IsS64.far ?_ NB0_101.out _ | refine IsS64.far ?_ NB0_103.out _) | exact HI0.out)⟩, ⟨by repeat (first | (with_reducible first | exact HK.out | apply KeepBut.set_ | apply keep_drewN | apply keep_drew | apply keep_alloc | refine keep_far ?_ GW101.out _ | refine keep_far ?_ GW103.out _) | exact HK.out)⟩, ⟨by repeat (first | (with_reducible first | exact HB.out | apply below_alloc | apply pw_below_drewN | apply below_drew1 | refine below_set ?_ (IsS64.ge HI0.out) | refine below_set ?_ GE101.out | refine below_set ?_ GE103.out) | exact HB.out)⟩⟩
  case rest =>
    clear HC6
    try clear c1
    try clear p1
    try clear q1
    try clear hx1
    try clear p2
    try clear c4
    try clear c4b0
    try clear c5
    try clear c5b0
    try clear c10
    try clear p10
    try clear q10
    try clear hx10
    try clear c11
    try clear c13
    try clear c15
    try clear c16
    try clear hx102_0
    try clear hx102_1
    try clear hx102_2
    try clear hx102_3
    try clear hx102_4
    try clear hx102_5
    try clear hx102_6
    try clear hx102_7
    try clear p102
    try clear q102
    obtain ⟨kq, x66_5, rfl, HA, HJ5, BK101, BK103, HI0, HK, HB⟩ := hcut
    cases kq with
    | zero => exact absurd HA.out (by simp [partitaref10_Walk_on.j0])
    | succ kj5 =>
      have H := HA.out
      clear HA
      simp only [partitaref10_Walk_on.j0] at H
      by_cases c19 : x66_5 = true
      · subst c19
        have H1 : (some (s0_0, s0_1, s0_2, s0_3, s0_4, s0_5, s0_6, true)) = some (r1, r2, r3, r4, r5, r6, r7, r8) := by rw [if_pos rfl] at H; exact H
        clear H
        have H := H1
        clear H1
        simp only [Option.some.injEq, Prod.mk.injEq] at H
        obtain ⟨rfl, rfl, rfl, rfl, rfl, rfl, rfl, rfl⟩ := H
        have hz20 := cells8 HI0.out.1
        go_wp2
        first | go_end0 | ((try simp only [Exit.inBlock, Exit.then]); refine bodyPost_ret (results_none rfl _ _ _) rfl ?_)
        exact ⟨qq2, by repeat (first | (with_reducible first | exact HI0.out | apply IsS64.alloc | apply IsS64.drewN | apply IsS64.drew | apply IsS64.set_0 | apply IsS64.set_1 | apply IsS64.set_2 | apply IsS64.set_3 | apply IsS64.set_4 | apply IsS64.set_5 | apply IsS64.set_6 | apply IsS64.set_7 | refine IsS64.far ?_ NB0_101.out _ | refine IsS64.far ?_ NB0_103.out _) | exact HI0.out), by repeat (first | (with_reducible first | exact HB.out | apply below_alloc | apply pw_below_drewN | apply below_drew1 | refine below_set ?_ (IsS64.ge HI0.out) | refine below_set ?_ GE101.out | refine below_set ?_ GE103.out) | exact HB.out), by repeat (first | (with_reducible first | exact HK.out | apply KeepBut.set_ | apply keep_drewN | apply keep_drew | apply keep_alloc | refine keep_far ?_ GW101.out _ | refine keep_far ?_ GW103.out _) | exact HK.out)⟩
      replace c19 := Bool.eq_false_iff.mpr c19
      subst c19
      have H1 : (if s0_6 = true then (partitaref10_Walk_on.j1 kj5 ((rd_T38 l1 s0_0).f5) s0_0 s0_1 s0_2 s0_3 s0_4 s0_5 s0_6 s0_7 a2_0 a2_1 a2_2 a2_3 a2_4 ((rd_T38 l1 s0_0).f0) ((rd_T38 l1 s0_0).f1) ((rd_T38 l1 s0_0).f3) ((rd_T38 l1 s0_0).f4) ((rd_T38 l1 s0_0).f5) ((rd_T38 l1 s0_0).f6) ((rd_T38 l1 s0_0).f7)) else (partitaref10_Walk_on.j1 kj5 false s0_0 s0_1 s0_2 s0_3 s0_4 s0_5 s0_6 s0_7 a2_0 a2_1 a2_2 a2_3 a2_4 ((rd_T38 l1 s0_0).f0) ((rd_T38 l1 s0_0).f1) ((rd_T38 l1 s0_0).f3) ((rd_T38 l1 s0_0).f4) ((rd_T38 l1 s0_0).f5) ((rd_T38 l1 s0_0).f6) ((rd_T38 l1 s0_0).f7))) = some (r1, r2, r3, r4, r5, r6, r7, r8) := by rw [if_neg (show ¬ (false = true) by decide)] at H; exact H
      clear H
      have H := H1
      clear H1
      have HC21 := Aside0.mk H
      clear H
      go_upto_region 13 with (fail)
      go_cut [78] (fun v78 wc => ∃ (kq : Nat) (x78_20 : Bool), v78 = .bool x78_20 ∧ Aside0 (partitaref10_Walk_on.j1 kq x78_20 s0_0 s0_1 s0_2 s0_3 s0_4 s0_5 s0_6 s0_7 a2_0 a2_1 a2_2 a2_3 a2_4 ((rd_T38 l1 s0_0).f0) ((rd_T38 l1 s0_0).f1) ((rd_T38 l1 s0_0).f3) ((rd_T38 l1 s0_0).f4) ((rd_T38 l1 s0_0).f5) ((rd_T38 l1 s0_0).f6) ((rd_T38 l1 s0_0).f7) = some (r1, r2, r3, r4, r5, r6, r7, r8)) ∧ Aside0 (kq ≤ kj5) ∧ Aside0 (wc.heap[gb101]? = some (.cells #[.int .i64 a2_0, .int .i64 a2_1, .int .i64 a2_2, .bool a2_3, .bool a2_4] 55 (0, 0))) ∧ Aside0 (wc.heap[gb103]? = some (.cells #[.bool ((rd_T38 l1 s0_0).f0), .int .i64 ((rd_T38 l1 s0_0).f1), .slice A102_2 ((rd_T38 l1 s0_0).f2).length c102_2, .bool ((rd_T38 l1 s0_0).f3), .bool ((rd_T38 l1 s0_0).f4), .bool ((rd_T38 l1 s0_0).f5), .bool ((rd_T38 l1 s0_0).f6), .int .i64 ((rd_T38 l1 s0_0).f7)] 38 (0, 0))) ∧ Aside0 (IsS64 w0 wc g s0_0 s0_1 s0_2 s0_3 s0_4 s0_5 s0_6 s0_7) ∧ Aside0 (KeepBut w wc g none) ∧ Aside0 (Below w0.heap.size w0 wc))
      case first =>
        have H := HC21.out
        clear HC21
        by_cases c22 : s0_6 = true
        rotate_left
        · replace c22 := Bool.eq_false_iff.mpr c22
          subst c22
          have H1 : (partitaref10_Walk_on.j1 kj5 false s0_0 s0_1 s0_2 s0_3 s0_4 s0_5 false s0_7 a2_0 a2_1 a2_2 a2_3 a2_4 ((rd_T38 l1 s0_0).f0) ((rd_T38 l1 s0_0).f1) ((rd_T38 l1 s0_0).f3) ((rd_T38 l1 s0_0).f4) ((rd_T38 l1 s0_0).f5) ((rd_T38 l1 s0_0).f6) ((rd_T38 l1 s0_0).f7)) = some (r1, r2, r3, r4, r5, r6, r7, r8) := by rw [if_neg (show ¬ (false = true) by decide)] at H; exact H
          clear H
          have H := H1
          clear H1
          have H' := Aside0.mk H
          clear H
          have hz27 := cells8 HI0.out.1
          go_wp2
          go_meet
          case rel => exact ⟨_, (false), qq3, H', ⟨by have := HJ5.out; first | omega | exact Nat.le_refl _⟩, ⟨bq BK101.out⟩, ⟨bq BK103.out⟩, ⟨by repeat (first | (with_reducible first | exact HI0.out | apply IsS64.alloc | apply IsS64.drewN | apply IsS64.drew | apply IsS64.set_0 | apply IsS64.set_1 | apply IsS64.set_2 | apply IsS64.set_3 | apply IsS64.set_4 | apply IsS64.set_5 | apply IsS64.set_6 | apply IsS64.set_7 | refine IsS64.far ?_ NB0_101.out _ | refine IsS64.far ?_ NB0_103.out _) | exact HI0.out)⟩, ⟨by repeat (first | (with_reducible first | exact HK.out | apply KeepBut.set_ | apply keep_drewN | apply keep_drew | apply keep_alloc | refine keep_far ?_ GW101.out _ | refine keep_far ?_ GW103.out _) | exact HK.out)⟩, ⟨by repeat (first | (with_reducible first | exact HB.out | apply below_alloc | apply pw_below_drewN | apply below_drew1 | refine below_set ?_ (IsS64.ge HI0.out) | refine below_set ?_ GE101.out | refine below_set ?_ GE103.out) | exact HB.out)⟩⟩
        subst c22
        have H1 : (partitaref10_Walk_on.j1 kj5 ((rd_T38 l1 s0_0).f5) s0_0 s0_1 s0_2 s0_3 s0_4 s0_5 true s0_7 a2_0 a2_1 a2_2 a2_3 a2_4 ((rd_T38 l1 s0_0).f0) ((rd_T38 l1 s0_0).f1) ((rd_T38 l1 s0_0).f3) ((rd_T38 l1 s0_0).f4) ((rd_T38 l1 s0_0).f5) ((rd_T38 l1 s0_0).f6) ((rd_T38 l1 s0_0).f7)) = some (r1, r2, r3, r4, r5, r6, r7, r8) := by rw [if_pos rfl] at H; exact H
        clear H
        have H := H1
        clear H1
        have H' := Aside0.mk H
        clear H
        have hz23 := cells8 HI0.out.1
        have hnb24 := NB103_101.out
        have hnc24 := NB101_103.out
        have hnb25 := NB103_0.out
        have hnc25 := NB0_103.out
        have hz26 := cells8 BK103.out
        go_wp2
        go_meet
        case rel => exact ⟨_, (((rd_T38 l1 s0_0).f5)), qq3, H', ⟨by have := HJ5.out; first | omega | exact Nat.le_refl _⟩, ⟨bq BK101.out⟩, ⟨bq BK103.out⟩, ⟨by repeat (first | (with_reducible first | exact HI0.out | apply IsS64.alloc | apply IsS64.drewN | apply IsS64.drew | apply IsS64.set_0 | apply IsS64.set_1 | apply IsS64.set_2 | apply IsS64.set_3 | apply IsS64.set_4 | apply IsS64.set_5 | apply IsS64.set_6 | apply IsS64.set_7 | refine IsS64.far ?_ NB0_101.out _ | refine IsS64.far ?_ NB0_103.out _) | exact HI0.out)⟩, ⟨by repeat (first | (with_reducible first | exact HK.out | apply KeepBut.set_ | apply keep_drewN | apply keep_drew | apply keep_alloc | refine keep_far ?_ GW101.out _ | refine keep_far ?_ GW103.out _) | exact HK.out)⟩, ⟨by repeat (first | (with_reducible first | exact HB.out | apply below_alloc | apply pw_below_drewN | apply below_drew1 | refine below_set ?_ (IsS64.ge HI0.out) | refine below_set ?_ GE101.out | refine below_set ?_ GE103.out) | exact HB.out)⟩⟩
      case rest =>
        clear HC21
        try clear c1
        try clear p1
        try clear q1
        try clear hx1
        try clear c2
        try clear p2
        try clear c4
        try clear c4b0
        try clear c5
        try clear c5b0
        try clear c10
        try clear p10
        try clear q10
        try clear hx10
        try clear c11
        try clear c13
        try clear c15
        try clear c16
        try clear c19
        try clear c22
        try clear c24
        try clear c25
        try clear hx102_0
        try clear hx102_1
        try clear hx102_2
        try clear hx102_3
        try clear hx102_4
        try clear hx102_5
        try clear hx102_6
        try clear hx102_7
        try clear p1
        try clear p10
        try clear p102
        try clear p2
        try clear q1
        try clear q10
        try clear q102
        obtain ⟨kq, x78_20, rfl, HA, HJ20, BK101, BK103, HI0, HK, HB⟩ := hcut
        cases kq with
        | zero => exact absurd HA.out (by simp [partitaref10_Walk_on.j1])
        | succ kj20 =>
          have H := HA.out
          clear HA
          simp only [partitaref10_Walk_on.j1] at H
          by_cases c28 : x78_20 = true
          · subst c28
            have H1 : ((partitaref10_Walk_goTo.f s0_0 s0_1 s0_2 s0_3 s0_4 s0_5 false s0_7 a2_1).bind fun bt104 => (some (bt104.1, bt104.2.1, bt104.2.2.1, bt104.2.2.2.1, bt104.2.2.2.2.1, bt104.2.2.2.2.2.1, bt104.2.2.2.2.2.2.1, bt104.2.2.2.2.2.2.2))) = some (r1, r2, r3, r4, r5, r6, r7, r8) := by rw [if_pos rfl] at H; exact H
            clear H
            have H := H1
            clear H1
            replace H := Option.bind_eq_some_iff.mp H
            obtain ⟨⟨t104, t105, t106, t107, t108, t109, t110, t111⟩, A290, H⟩ := H
            try dsimp -simprocs only at H
            have A29 := Aside0.mk A290
            clear A290
            simp only [Option.some.injEq, Prod.mk.injEq] at H
            obtain ⟨rfl, rfl, rfl, rfl, rfl, rfl, rfl, rfl⟩ := H
            have hz30 := cells8 HI0.out.1
            have hnb31 := NB101_103.out
            have hnc31 := NB103_101.out
            have hnb32 := NB101_0.out
            have hnc32 := NB0_101.out
            have hz33 := cells5 BK101.out
            go_wp2_with (first | (go_at_call 43; (with_reducible refine (partitaref10_Walk_goTo.calls g s0_0 s0_1 s0_2 s0_3 s0_4 s0_5 false s0_7 a2_1 t104 t105 t106 t107 t108 t109 t110 t111 w0 _ ?side1 ?side2 A29.out).mono ?_); (case side1 => repeat (first | (with_reducible first | exact HI0.out | apply IsS64.alloc | apply IsS64.drewN | apply IsS64.drew | apply IsS64.set_0 | apply IsS64.set_1 | apply IsS64.set_2 | apply IsS64.set_3 | apply IsS64.set_4 | apply IsS64.set_5 | apply IsS64.set_6 | apply IsS64.set_7 | refine IsS64.far ?_ NB0_101.out _ | refine IsS64.far ?_ NB0_103.out _) | exact HI0.out)); (case side2 => repeat (first | (with_reducible first | exact HB.out | apply below_alloc | apply pw_below_drewN | apply below_drew1 | refine below_set ?_ (IsS64.ge HI0.out) | refine below_set ?_ GE101.out | refine below_set ?_ GE103.out) | exact HB.out)); rintro e w34 ⟨rfl, hi, hb, hk⟩; replace BK101 := Aside0.mk (KeepBut.blk hk (g' := gb101) (o := .cells #[.int .i64 a2_0, .int .i64 a2_1, .int .i64 a2_2, .bool a2_3, .bool a2_4] 55 (0, 0)) (by refine bq ?_; refine blk_far ?_ NB101_0.out _; exact bq BK101.out) NB101_0.out (by simp)); replace BK103 := Aside0.mk (KeepBut.blk hk (g' := gb103) (o := .cells #[.bool ((rd_T38 l1 s0_0).f0), .int .i64 ((rd_T38 l1 s0_0).f1), .slice A102_2 ((rd_T38 l1 s0_0).f2).length c102_2, .bool ((rd_T38 l1 s0_0).f3), .bool ((rd_T38 l1 s0_0).f4), .bool ((rd_T38 l1 s0_0).f5), .bool ((rd_T38 l1 s0_0).f6), .int .i64 ((rd_T38 l1 s0_0).f7)] 38 (0, 0)) (by refine bq ?_; refine blk_far ?_ NB103_0.out _; exact bq BK103.out) NB103_0.out (by simp)); replace HK := Aside0.mk (KeepBut.trans (by repeat (first | (with_reducible first | exact HK.out | apply KeepBut.set_ | apply keep_drewN | apply keep_drew | apply keep_alloc | refine keep_far ?_ GW101.out _ | refine keep_far ?_ GW103.out _) | exact HK.out)) hk (.inl rfl)); replace HB := Aside0.mk (hb); replace HI0 := Aside0.mk (hi); (try clear hb); (try clear hb2); (try clear hk); (try clear hi)))
            first | go_end0 | ((try simp only [Exit.inBlock, Exit.then]); refine bodyPost_ret (results_none rfl _ _ _) rfl ?_)
            exact ⟨qq2, by repeat (first | (with_reducible first | exact HI0.out | apply IsS64.alloc | apply IsS64.drewN | apply IsS64.drew | apply IsS64.set_0 | apply IsS64.set_1 | apply IsS64.set_2 | apply IsS64.set_3 | apply IsS64.set_4 | apply IsS64.set_5 | apply IsS64.set_6 | apply IsS64.set_7 | refine IsS64.far ?_ NB0_101.out _ | refine IsS64.far ?_ NB0_103.out _) | exact HI0.out), by repeat (first | (with_reducible first | exact HB.out | apply below_alloc | apply pw_below_drewN | apply below_drew1 | refine below_set ?_ (IsS64.ge HI0.out) | refine below_set ?_ GE101.out | refine below_set ?_ GE103.out) | exact HB.out), by repeat (first | (with_reducible first | exact HK.out | apply KeepBut.set_ | apply keep_drewN | apply keep_drew | apply keep_alloc | refine keep_far ?_ GW101.out _ | refine keep_far ?_ GW103.out _) | exact HK.out)⟩
          replace c28 := Bool.eq_false_iff.mpr c28
          subst c28
          have H1 : (if ((rd_T38 l1 s0_0).f1) > 0 then (if s0_4 = true then (partitaref10_Walk_on.j2 kj20 false s0_0 s0_1 s0_2 s0_3 s0_4 s0_5 s0_6 s0_7 a2_0 a2_1 a2_2 a2_3 a2_4 ((rd_T38 l1 s0_0).f0) ((rd_T38 l1 s0_0).f1) ((rd_T38 l1 s0_0).f3) ((rd_T38 l1 s0_0).f4) ((rd_T38 l1 s0_0).f5) ((rd_T38 l1 s0_0).f6) ((rd_T38 l1 s0_0).f7)) else (partitaref10_Walk_on.j2 kj20 (decide (s0_1 < ((rd_T38 l1 s0_0).f1))) s0_0 s0_1 s0_2 s0_3 s0_4 s0_5 s0_6 s0_7 a2_0 a2_1 a2_2 a2_3 a2_4 ((rd_T38 l1 s0_0).f0) ((rd_T38 l1 s0_0).f1) ((rd_T38 l1 s0_0).f3) ((rd_T38 l1 s0_0).f4) ((rd_T38 l1 s0_0).f5) ((rd_T38 l1 s0_0).f6) ((rd_T38 l1 s0_0).f7))) else (partitaref10_Walk_on.j2 kj20 false s0_0 s0_1 s0_2 s0_3 s0_4 s0_5 s0_6 s0_7 a2_0 a2_1 a2_2 a2_3 a2_4 ((rd_T38 l1 s0_0).f0) ((rd_T38 l1 s0_0).f1) ((rd_T38 l1 s0_0).f3) ((rd_T38 l1 s0_0).f4) ((rd_T38 l1 s0_0).f5) ((rd_T38 l1 s0_0).f6) ((rd_T38 l1 s0_0).f7))) = some (r1, r2, r3, r4, r5, r6, r7, r8) := by rw [if_neg (show ¬ (false = true) by decide)] at H; exact H
          clear H
          have H := H1
          clear H1
          have HC35 := Aside0.mk H
          clear H
          go_upto_region 16 with (fail)
          go_cut [94] (fun v94 wc => ∃ (kq : Nat) (x94_34 : Bool), v94 = .bool x94_34 ∧ Aside0 (partitaref10_Walk_on.j2 kq x94_34 s0_0 s0_1 s0_2 s0_3 s0_4 s0_5 s0_6 s0_7 a2_0 a2_1 a2_2 a2_3 a2_4 ((rd_T38 l1 s0_0).f0) ((rd_T38 l1 s0_0).f1) ((rd_T38 l1 s0_0).f3) ((rd_T38 l1 s0_0).f4) ((rd_T38 l1 s0_0).f5) ((rd_T38 l1 s0_0).f6) ((rd_T38 l1 s0_0).f7) = some (r1, r2, r3, r4, r5, r6, r7, r8)) ∧ Aside0 (kq ≤ kj20) ∧ Aside0 (wc.heap[gb101]? = some (.cells #[.int .i64 a2_0, .int .i64 a2_1, .int .i64 a2_2, .bool a2_3, .bool a2_4] 55 (0, 0))) ∧ Aside0 (wc.heap[gb103]? = some (.cells #[.bool ((rd_T38 l1 s0_0).f0), .int .i64 ((rd_T38 l1 s0_0).f1), .slice A102_2 ((rd_T38 l1 s0_0).f2).length c102_2, .bool ((rd_T38 l1 s0_0).f3), .bool ((rd_T38 l1 s0_0).f4), .bool ((rd_T38 l1 s0_0).f5), .bool ((rd_T38 l1 s0_0).f6), .int .i64 ((rd_T38 l1 s0_0).f7)] 38 (0, 0))) ∧ Aside0 (IsS64 w0 wc g s0_0 s0_1 s0_2 s0_3 s0_4 s0_5 s0_6 s0_7) ∧ Aside0 (KeepBut w wc g none) ∧ Aside0 (Below w0.heap.size w0 wc))
          case first =>
            have H := HC35.out
            clear HC35
            by_cases c36 : ((rd_T38 l1 s0_0).f1) > 0
            rotate_left
            · rw [if_neg c36] at H
              have c36b0 : decide (0 < ((rd_T38 l1 s0_0).f1)) = false := decide_eq_false c36
              clear c36
              (first | rw [c36b0] | (simp only [i64_w, i32_w]; rw [c36b0]) | skip)
              have H' := Aside0.mk H
              clear H
              have hnb46 := NB103_101.out
              have hnc46 := NB101_103.out
              have hnb47 := NB103_0.out
              have hnc47 := NB0_103.out
              have hz48 := cells8 BK103.out
              go_wp2
              repeat (go_quiet (fail); try go_wp2)
              go_meet
              case rel => exact ⟨_, (false), qq3, H', ⟨qqT⟩, ⟨bq BK101.out⟩, ⟨bq BK103.out⟩, ⟨by repeat (first | (with_reducible first | exact HI0.out | apply IsS64.alloc | apply IsS64.drewN | apply IsS64.drew | apply IsS64.set_0 | apply IsS64.set_1 | apply IsS64.set_2 | apply IsS64.set_3 | apply IsS64.set_4 | apply IsS64.set_5 | apply IsS64.set_6 | apply IsS64.set_7 | refine IsS64.far ?_ NB0_101.out _ | refine IsS64.far ?_ NB0_103.out _) | exact HI0.out)⟩, ⟨by repeat (first | (with_reducible first | exact HK.out | apply KeepBut.set_ | apply keep_drewN | apply keep_drew | apply keep_alloc | refine keep_far ?_ GW101.out _ | refine keep_far ?_ GW103.out _) | exact HK.out)⟩, ⟨by repeat (first | (with_reducible first | exact HB.out | apply below_alloc | apply pw_below_drewN | apply below_drew1 | refine below_set ?_ (IsS64.ge HI0.out) | refine below_set ?_ GE101.out | refine below_set ?_ GE103.out) | exact HB.out)⟩⟩
            rw [if_pos c36] at H
            have c36b0 : decide (0 < ((rd_T38 l1 s0_0).f1)) = true := decide_eq_true c36
            clear c36
            (first | rw [c36b0] | (simp only [i64_w, i32_w]; rw [c36b0]) | skip)
            by_cases c37 : s0_4 = true
            · subst c37
              have H1 : (partitaref10_Walk_on.j2 kj20 false s0_0 s0_1 s0_2 s0_3 true s0_5 s0_6 s0_7 a2_0 a2_1 a2_2 a2_3 a2_4 ((rd_T38 l1 s0_0).f0) ((rd_T38 l1 s0_0).f1) ((rd_T38 l1 s0_0).f3) ((rd_T38 l1 s0_0).f4) ((rd_T38 l1 s0_0).f5) ((rd_T38 l1 s0_0).f6) ((rd_T38 l1 s0_0).f7)) = some (r1, r2, r3, r4, r5, r6, r7, r8) := by rw [if_pos rfl] at H; exact H
              clear H
              have H := H1
              clear H1
              have H' := Aside0.mk H
              clear H
              have hnb38 := NB103_101.out
              have hnc38 := NB101_103.out
              have hnb39 := NB103_0.out
              have hnc39 := NB0_103.out
              have hz40 := cells8 BK103.out
              have hz41 := cells8 HI0.out.1
              go_wp2
              repeat (go_quiet (fail); try go_wp2)
              go_meet
              case rel => exact ⟨_, (false), qq3, H', ⟨qqT⟩, ⟨bq BK101.out⟩, ⟨bq BK103.out⟩, ⟨by repeat (first | (with_reducible first | exact HI0.out | apply IsS64.alloc | apply IsS64.drewN | apply IsS64.drew | apply IsS64.set_0 | apply IsS64.set_1 | apply IsS64.set_2 | apply IsS64.set_3 | apply IsS64.set_4 | apply IsS64.set_5 | apply IsS64.set_6 | apply IsS64.set_7 | refine IsS64.far ?_ NB0_101.out _ | refine IsS64.far ?_ NB0_103.out _) | exact HI0.out)⟩, ⟨by repeat (first | (with_reducible first | exact HK.out | apply KeepBut.set_ | apply keep_drewN | apply keep_drew | apply keep_alloc | refine keep_far ?_ GW101.out _ | refine keep_far ?_ GW103.out _) | exact HK.out)⟩, ⟨by repeat (first | (with_reducible first | exact HB.out | apply below_alloc | apply pw_below_drewN | apply below_drew1 | refine below_set ?_ (IsS64.ge HI0.out) | refine below_set ?_ GE101.out | refine below_set ?_ GE103.out) | exact HB.out)⟩⟩
            replace c37 := Bool.eq_false_iff.mpr c37
            subst c37
            have H1 : (partitaref10_Walk_on.j2 kj20 (decide (s0_1 < ((rd_T38 l1 s0_0).f1))) s0_0 s0_1 s0_2 s0_3 false s0_5 s0_6 s0_7 a2_0 a2_1 a2_2 a2_3 a2_4 ((rd_T38 l1 s0_0).f0) ((rd_T38 l1 s0_0).f1) ((rd_T38 l1 s0_0).f3) ((rd_T38 l1 s0_0).f4) ((rd_T38 l1 s0_0).f5) ((rd_T38 l1 s0_0).f6) ((rd_T38 l1 s0_0).f7)) = some (r1, r2, r3, r4, r5, r6, r7, r8) := by rw [if_neg (show ¬ (false = true) by decide)] at H; exact H
            clear H
            have H := H1
            clear H1
            have H' := Aside0.mk H
            clear H
            have hnb42 := NB103_101.out
            have hnc42 := NB101_103.out
            have hnb43 := NB103_0.out
            have hnc43 := NB0_103.out
            have hz44 := cells8 BK103.out
            have hz45 := cells8 HI0.out.1
            go_wp2
            repeat (go_quiet (fail); try go_wp2)
            go_meet
            case rel => exact ⟨_, (decide (s0_1 < ((rd_T38 l1 s0_0).f1))), qq3, H', ⟨qqT⟩, ⟨bq BK101.out⟩, ⟨bq BK103.out⟩, ⟨by repeat (first | (with_reducible first | exact HI0.out | apply IsS64.alloc | apply IsS64.drewN | apply IsS64.drew | apply IsS64.set_0 | apply IsS64.set_1 | apply IsS64.set_2 | apply IsS64.set_3 | apply IsS64.set_4 | apply IsS64.set_5 | apply IsS64.set_6 | apply IsS64.set_7 | refine IsS64.far ?_ NB0_101.out _ | refine IsS64.far ?_ NB0_103.out _) | exact HI0.out)⟩, ⟨by repeat (first | (with_reducible first | exact HK.out | apply KeepBut.set_ | apply keep_drewN | apply keep_drew | apply keep_alloc | refine keep_far ?_ GW101.out _ | refine keep_far ?_ GW103.out _) | exact HK.out)⟩, ⟨by repeat (first | (with_reducible first | exact HB.out | apply below_alloc | apply pw_below_drewN | apply below_drew1 | refine below_set ?_ (IsS64.ge HI0.out) | refine below_set ?_ GE101.out | refine below_set ?_ GE103.out) | exact HB.out)⟩⟩
          case rest =>
            clear HC35
            try clear c1
            try clear p1
            try clear q1
            try clear hx1
            try clear c2
            try clear p2
            try clear c3
            try clear c4
            try clear c4b0
            try clear c5
            try clear c5b0
            try clear c10
            try clear p10
            try clear q10
            try clear hx10
            try clear c11
            try clear c13
            try clear c15
            try clear c16
            try clear c19
            try clear c22
            try clear c24
            try clear c25
            try clear c28
            try clear c31
            try clear c32
            try clear c36
            try clear c36b0
            try clear c37
            try clear c38
            try clear c39
            try clear c42
            try clear c43
            try clear c46
            try clear c47
            try clear hx102_0
            try clear hx102_1
            try clear hx102_2
            try clear hx102_3
            try clear hx102_4
            try clear hx102_5
            try clear hx102_6
            try clear hx102_7
            try clear p1
            try clear p10
            try clear p102
            try clear p2
            try clear q1
            try clear q10
            try clear q102
            obtain ⟨kq, x94_34, rfl, HA, HJ34, BK101, BK103, HI0, HK, HB⟩ := hcut
            cases kq with
            | zero => exact absurd HA.out (by simp [partitaref10_Walk_on.j2])
            | succ kj34 =>
              have H := HA.out
              clear HA
              simp only [partitaref10_Walk_on.j2] at H
              by_cases c49 : x94_34 = true
              · subst c49
                have H1 : (some (s0_2, wrap64 (s0_1 + 1), s0_2, false, s0_4, s0_5, s0_6, s0_7)) = some (r1, r2, r3, r4, r5, r6, r7, r8) := by rw [if_pos rfl] at H; exact H
                clear H
                have H := H1
                clear H1
                simp only [Option.some.injEq, Prod.mk.injEq] at H
                obtain ⟨rfl, rfl, rfl, rfl, rfl, rfl, rfl, rfl⟩ := H
                have hz50 := cells8 HI0.out.1
                go_wp2
                first | go_end0 | ((try simp only [Exit.inBlock, Exit.then]); refine bodyPost_ret (results_none rfl _ _ _) rfl ?_)
                exact ⟨qq2, by repeat (first | (with_reducible first | exact HI0.out | apply IsS64.alloc | apply IsS64.drewN | apply IsS64.drew | apply IsS64.set_0 | apply IsS64.set_1 | apply IsS64.set_2 | apply IsS64.set_3 | apply IsS64.set_4 | apply IsS64.set_5 | apply IsS64.set_6 | apply IsS64.set_7 | refine IsS64.far ?_ NB0_101.out _ | refine IsS64.far ?_ NB0_103.out _) | exact HI0.out), by repeat (first | (with_reducible first | exact HB.out | apply below_alloc | apply pw_below_drewN | apply below_drew1 | refine below_set ?_ (IsS64.ge HI0.out) | refine below_set ?_ GE101.out | refine below_set ?_ GE103.out) | exact HB.out), by repeat (first | (with_reducible first | exact HK.out | apply KeepBut.set_ | apply keep_drewN | apply keep_drew | apply keep_alloc | refine keep_far ?_ GW101.out _ | refine keep_far ?_ GW103.out _) | exact HK.out)⟩
              replace c49 := Bool.eq_false_iff.mpr c49
              subst c49
              have H1 : (if s0_3 = true then (partitaref10_Walk_on.j3 kj34 s0_0 s0_1 s0_2 true s0_4 s0_5 s0_6 s0_7 a2_0 a2_1 a2_2 a2_3 a2_4 ((rd_T38 l1 s0_0).f0) ((rd_T38 l1 s0_0).f1) ((rd_T38 l1 s0_0).f3) ((rd_T38 l1 s0_0).f4) ((rd_T38 l1 s0_0).f5) ((rd_T38 l1 s0_0).f6) ((rd_T38 l1 s0_0).f7)) else (partitaref10_Walk_on.j3 kj34 s0_0 s0_1 s0_2 (decide (((rd_T38 l1 s0_0).f1) > 0)) s0_4 s0_5 s0_6 s0_7 a2_0 a2_1 a2_2 a2_3 a2_4 ((rd_T38 l1 s0_0).f0) ((rd_T38 l1 s0_0).f1) ((rd_T38 l1 s0_0).f3) ((rd_T38 l1 s0_0).f4) ((rd_T38 l1 s0_0).f5) ((rd_T38 l1 s0_0).f6) ((rd_T38 l1 s0_0).f7))) = some (r1, r2, r3, r4, r5, r6, r7, r8) := by rw [if_neg (show ¬ (false = true) by decide)] at H; exact H
              clear H
              have H := H1
              clear H1
              have HC51 := Aside0.mk H
              clear H
              go_upto_region 2 with (fail)
              go_cut [] (fun wc => ∃ (kq : Nat) (x1003_50 : Bool), Aside0 (partitaref10_Walk_on.j3 kq s0_0 s0_1 s0_2 x1003_50 s0_4 s0_5 s0_6 s0_7 a2_0 a2_1 a2_2 a2_3 a2_4 ((rd_T38 l1 s0_0).f0) ((rd_T38 l1 s0_0).f1) ((rd_T38 l1 s0_0).f3) ((rd_T38 l1 s0_0).f4) ((rd_T38 l1 s0_0).f5) ((rd_T38 l1 s0_0).f6) ((rd_T38 l1 s0_0).f7) = some (r1, r2, r3, r4, r5, r6, r7, r8)) ∧ Aside0 (kq ≤ kj34) ∧ Aside0 (wc.heap[gb101]? = some (.cells #[.int .i64 a2_0, .int .i64 a2_1, .int .i64 a2_2, .bool a2_3, .bool a2_4] 55 (0, 0))) ∧ Aside0 (wc.heap[gb103]? = some (.cells #[.bool ((rd_T38 l1 s0_0).f0), .int .i64 ((rd_T38 l1 s0_0).f1), .slice A102_2 ((rd_T38 l1 s0_0).f2).length c102_2, .bool ((rd_T38 l1 s0_0).f3), .bool ((rd_T38 l1 s0_0).f4), .bool ((rd_T38 l1 s0_0).f5), .bool ((rd_T38 l1 s0_0).f6), .int .i64 ((rd_T38 l1 s0_0).f7)] 38 (0, 0))) ∧ Aside0 (IsS64 w0 wc g s0_0 s0_1 s0_2 x1003_50 s0_4 s0_5 s0_6 s0_7) ∧ Aside0 (KeepBut w wc g none) ∧ Aside0 (Below w0.heap.size w0 wc))
              case first =>
                have H := HC51.out
                clear HC51
                by_cases c52 : s0_3 = true
                · subst c52
                  have H1 : (partitaref10_Walk_on.j3 kj34 s0_0 s0_1 s0_2 true s0_4 s0_5 s0_6 s0_7 a2_0 a2_1 a2_2 a2_3 a2_4 ((rd_T38 l1 s0_0).f0) ((rd_T38 l1 s0_0).f1) ((rd_T38 l1 s0_0).f3) ((rd_T38 l1 s0_0).f4) ((rd_T38 l1 s0_0).f5) ((rd_T38 l1 s0_0).f6) ((rd_T38 l1 s0_0).f7)) = some (r1, r2, r3, r4, r5, r6, r7, r8) := by rw [if_pos rfl] at H; exact H
                  clear H
                  have H := H1
                  clear H1
                  have H' := Aside0.mk H
                  clear H
                  have hz53 := cells8 HI0.out.1
                  go_wp2
                  go_meet
                  case rel => exact ⟨_, (true), H', ⟨by have := HJ5.out; have := HJ20.out; have := HJ34.out; first | omega | exact Nat.le_refl _⟩, ⟨by (with_reducible repeat (first | refine blk_drewN ?_ _ | refine blk_drew ?_ | refine blk_alloc ?_ _)); refine blk_far ?_ NB101_0.out _; (with_reducible repeat (first | refine blk_drewN ?_ _ | refine blk_drew ?_ | refine blk_alloc ?_ _)); exact BK101.out⟩, ⟨by (with_reducible repeat (first | refine blk_drewN ?_ _ | refine blk_drew ?_ | refine blk_alloc ?_ _)); refine blk_far ?_ NB103_0.out _; (with_reducible repeat (first | refine blk_drewN ?_ _ | refine blk_drew ?_ | refine blk_alloc ?_ _)); exact BK103.out⟩, ⟨by repeat (first | (with_reducible first | exact HI0.out | apply IsS64.alloc | apply IsS64.drewN | apply IsS64.drew | apply IsS64.set_0 | apply IsS64.set_1 | apply IsS64.set_2 | apply IsS64.set_3 | apply IsS64.set_4 | apply IsS64.set_5 | apply IsS64.set_6 | apply IsS64.set_7 | refine IsS64.far ?_ NB0_101.out _ | refine IsS64.far ?_ NB0_103.out _) | exact HI0.out)⟩, ⟨by repeat (first | (with_reducible first | exact HK.out | apply KeepBut.set_ | apply keep_drewN | apply keep_drew | apply keep_alloc | refine keep_far ?_ GW101.out _ | refine keep_far ?_ GW103.out _) | exact HK.out)⟩, ⟨by repeat (first | (with_reducible first | exact HB.out | apply below_alloc | apply pw_below_drewN | apply below_drew1 | refine below_set ?_ (IsS64.ge HI0.out) | refine below_set ?_ GE101.out | refine below_set ?_ GE103.out) | exact HB.out)⟩⟩
                replace c52 := Bool.eq_false_iff.mpr c52
                subst c52
                have H1 : (partitaref10_Walk_on.j3 kj34 s0_0 s0_1 s0_2 (decide (((rd_T38 l1 s0_0).f1) > 0)) s0_4 s0_5 s0_6 s0_7 a2_0 a2_1 a2_2 a2_3 a2_4 ((rd_T38 l1 s0_0).f0) ((rd_T38 l1 s0_0).f1) ((rd_T38 l1 s0_0).f3) ((rd_T38 l1 s0_0).f4) ((rd_T38 l1 s0_0).f5) ((rd_T38 l1 s0_0).f6) ((rd_T38 l1 s0_0).f7)) = some (r1, r2, r3, r4, r5, r6, r7, r8) := by rw [if_neg (show ¬ (false = true) by decide)] at H; exact H
                clear H
                have H := H1
                clear H1
                have H' := Aside0.mk H
                clear H
                have hz54 := cells8 HI0.out.1
                have hnb55 := NB103_101.out
                have hnc55 := NB101_103.out
                have hnb56 := NB103_0.out
                have hnc56 := NB0_103.out
                have hz57 := cells8 BK103.out
                go_wp2
                go_meet
                case rel => exact ⟨_, (decide (((rd_T38 l1 s0_0).f1) > 0)), H', ⟨by have := HJ5.out; have := HJ20.out; have := HJ34.out; first | omega | exact Nat.le_refl _⟩, ⟨by (with_reducible repeat (first | refine blk_drewN ?_ _ | refine blk_drew ?_ | refine blk_alloc ?_ _)); refine blk_far ?_ NB101_0.out _; (with_reducible repeat (first | refine blk_drewN ?_ _ | refine blk_drew ?_ | refine blk_alloc ?_ _)); exact BK101.out⟩, ⟨by (with_reducible repeat (first | refine blk_drewN ?_ _ | refine blk_drew ?_ | refine blk_alloc ?_ _)); refine blk_far ?_ NB103_0.out _; (with_reducible repeat (first | refine blk_drewN ?_ _ | refine blk_drew ?_ | refine blk_alloc ?_ _)); exact BK103.out⟩, ⟨by repeat (first | (with_reducible first | exact HI0.out | apply IsS64.alloc | apply IsS64.drewN | apply IsS64.drew | apply IsS64.set_0 | apply IsS64.set_1 | apply IsS64.set_2 | apply IsS64.set_3 | apply IsS64.set_4 | apply IsS64.set_5 | apply IsS64.set_6 | apply IsS64.set_7 | refine IsS64.far ?_ NB0_101.out _ | refine IsS64.far ?_ NB0_103.out _) | exact HI0.out)⟩, ⟨by repeat (first | (with_reducible first | exact HK.out | apply KeepBut.set_ | apply keep_drewN | apply keep_drew | apply keep_alloc | refine keep_far ?_ GW101.out _ | refine keep_far ?_ GW103.out _) | exact HK.out)⟩, ⟨by repeat (first | (with_reducible first | exact HB.out | apply below_alloc | apply pw_below_drewN | apply below_drew1 | refine below_set ?_ (IsS64.ge HI0.out) | refine below_set ?_ GE101.out | refine below_set ?_ GE103.out) | exact HB.out)⟩⟩
              case rest =>
                clear HC51
                try clear c1
                try clear p1
                try clear q1
                try clear hx1
                try clear c2
                try clear p2
                try clear c3
                try clear c4
                try clear c4b0
                try clear c5
                try clear c5b0
                try clear p6
                try clear c10
                try clear p10
                try clear q10
                try clear hx10
                try clear c11
                try clear c13
                try clear c15
                try clear c16
                try clear c19
                try clear c22
                try clear c24
                try clear c25
                try clear c28
                try clear c31
                try clear c32
                try clear c36
                try clear c36b0
                try clear c37
                try clear c38
                try clear c39
                try clear c42
                try clear c43
                try clear c46
                try clear c47
                try clear c49
                try clear c52
                try clear c55
                try clear c56
                try clear hx102_0
                try clear hx102_1
                try clear hx102_2
                try clear hx102_3
                try clear hx102_4
                try clear hx102_5
                try clear hx102_6
                try clear hx102_7
                try clear p1
                try clear p10
                try clear p102
                try clear p2
                try clear q1
                try clear q10
                try clear q102
                obtain ⟨kq, x1003_50, HA, HJ50, BK101, BK103, HI0, HK, HB⟩ := hcut
                cases kq with
                | zero => exact absurd HA.out (by simp [partitaref10_Walk_on.j3])
                | succ kj50 =>
                  have H := HA.out
                  clear HA
                  simp only [partitaref10_Walk_on.j3] at H
                  have HC58 := Aside0.mk H
                  clear H
                  go_upto_region 3 with (fail)
                  go_cut [34] (fun v34 wc => ∃ (kq : Nat) (x34_57 : Bool), v34 = .bool x34_57 ∧ Aside0 (partitaref10_Walk_on.j4 kq x34_57 s0_0 s0_1 s0_2 x1003_50 s0_4 s0_5 s0_6 s0_7 a2_0 a2_1 a2_2 a2_3 a2_4 ((rd_T38 l1 s0_0).f0) ((rd_T38 l1 s0_0).f1) ((rd_T38 l1 s0_0).f3) ((rd_T38 l1 s0_0).f4) ((rd_T38 l1 s0_0).f5) ((rd_T38 l1 s0_0).f6) ((rd_T38 l1 s0_0).f7) = some (r1, r2, r3, r4, r5, r6, r7, r8)) ∧ Aside0 (kq ≤ kj50) ∧ Aside0 (wc.heap[gb101]? = some (.cells #[.int .i64 a2_0, .int .i64 a2_1, .int .i64 a2_2, .bool a2_3, .bool a2_4] 55 (0, 0))) ∧ Aside0 (wc.heap[gb103]? = some (.cells #[.bool ((rd_T38 l1 s0_0).f0), .int .i64 ((rd_T38 l1 s0_0).f1), .slice A102_2 ((rd_T38 l1 s0_0).f2).length c102_2, .bool ((rd_T38 l1 s0_0).f3), .bool ((rd_T38 l1 s0_0).f4), .bool ((rd_T38 l1 s0_0).f5), .bool ((rd_T38 l1 s0_0).f6), .int .i64 ((rd_T38 l1 s0_0).f7)] 38 (0, 0))) ∧ Aside0 (IsS64 w0 wc g s0_0 s0_1 s0_2 x1003_50 s0_4 s0_5 s0_6 s0_7) ∧ Aside0 (KeepBut w wc g none) ∧ Aside0 (Below w0.heap.size w0 wc))
                  case first =>
                    have H := HC58.out
                    clear HC58
                    by_cases c59 : ((rd_T38 l1 s0_0).f7) = 0
                    · rw [if_pos c59] at H
                      have c59b0 : (((rd_T38 l1 s0_0).f7) == 0) = true := beq_iff_eq.mpr c59
                      have c59b1 : (((rd_T38 l1 s0_0).f7) != 0) = false := bne_eq_false_iff_eq.mpr c59
                      clear c59
                      (first | rw [c59b0] | (simp only [i64_w, i32_w]; rw [c59b0]) | skip)
                      have H' := Aside0.mk H
                      clear H
                      have hnb60 := NB103_101.out
                      have hnc60 := NB101_103.out
                      have hnb61 := NB103_0.out
                      have hnc61 := NB0_103.out
                      have hz62 := cells8 BK103.out
                      go_wp2
                      go_meet
                      case rel => exact ⟨_, (true), qq3, H', ⟨qqZ⟩, ⟨bq BK101.out⟩, ⟨bq BK103.out⟩, ⟨by repeat (first | (with_reducible first | exact HI0.out | apply IsS64.alloc | apply IsS64.drewN | apply IsS64.drew | apply IsS64.set_0 | apply IsS64.set_1 | apply IsS64.set_2 | apply IsS64.set_3 | apply IsS64.set_4 | apply IsS64.set_5 | apply IsS64.set_6 | apply IsS64.set_7 | refine IsS64.far ?_ NB0_101.out _ | refine IsS64.far ?_ NB0_103.out _) | exact HI0.out)⟩, ⟨by repeat (first | (with_reducible first | exact HK.out | apply KeepBut.set_ | apply keep_drewN | apply keep_drew | apply keep_alloc | refine keep_far ?_ GW101.out _ | refine keep_far ?_ GW103.out _) | exact HK.out)⟩, ⟨by repeat (first | (with_reducible first | exact HB.out | apply below_alloc | apply pw_below_drewN | apply below_drew1 | refine below_set ?_ (IsS64.ge HI0.out) | refine below_set ?_ GE101.out | refine below_set ?_ GE103.out) | exact HB.out)⟩⟩
                    rw [if_neg c59] at H
                    have c59b0 : (((rd_T38 l1 s0_0).f7) == 0) = false := beq_eq_false_iff_ne.mpr c59
                    have c59b1 : (((rd_T38 l1 s0_0).f7) != 0) = true := bne_iff_ne.mpr c59
                    (first | rw [c59b0] | (simp only [i64_w, i32_w]; rw [c59b0]) | skip)
                    have H' := Aside0.mk H
                    clear H
                    have hnb63 := NB103_101.out
                    have hnc63 := NB101_103.out
                    have hnb64 := NB103_0.out
                    have hnc64 := NB0_103.out
                    have hz65 := cells8 BK103.out
                    have hz66 := cells8 HI0.out.1
                    go_wp2
                    go_meet
                    case rel => exact ⟨_, (s0_4), qq3, H', ⟨qqZ⟩, ⟨bq BK101.out⟩, ⟨bq BK103.out⟩, ⟨by repeat (first | (with_reducible first | exact HI0.out | apply IsS64.alloc | apply IsS64.drewN | apply IsS64.drew | apply IsS64.set_0 | apply IsS64.set_1 | apply IsS64.set_2 | apply IsS64.set_3 | apply IsS64.set_4 | apply IsS64.set_5 | apply IsS64.set_6 | apply IsS64.set_7 | refine IsS64.far ?_ NB0_101.out _ | refine IsS64.far ?_ NB0_103.out _) | exact HI0.out)⟩, ⟨by repeat (first | (with_reducible first | exact HK.out | apply KeepBut.set_ | apply keep_drewN | apply keep_drew | apply keep_alloc | refine keep_far ?_ GW101.out _ | refine keep_far ?_ GW103.out _) | exact HK.out)⟩, ⟨by repeat (first | (with_reducible first | exact HB.out | apply below_alloc | apply pw_below_drewN | apply below_drew1 | refine below_set ?_ (IsS64.ge HI0.out) | refine below_set ?_ GE101.out | refine below_set ?_ GE103.out) | exact HB.out)⟩⟩
                  case rest =>
                    clear HC58
                    try clear c1
                    try clear p1
                    try clear q1
                    try clear hx1
                    try clear c2
                    try clear p2
                    try clear c3
                    try clear c4
                    try clear c4b0
                    try clear c5
                    try clear c5b0
                    try clear c6
                    try clear p6
                    try clear c10
                    try clear p10
                    try clear q10
                    try clear hx10
                    try clear c11
                    try clear c13
                    try clear c15
                    try clear c16
                    try clear c19
                    try clear c22
                    try clear c24
                    try clear c25
                    try clear c28
                    try clear c31
                    try clear c32
                    try clear c36
                    try clear c36b0
                    try clear c37
                    try clear c38
                    try clear c39
                    try clear c42
                    try clear c43
                    try clear c46
                    try clear c47
                    try clear c49
                    try clear c52
                    try clear c55
                    try clear c56
                    try clear c59
                    try clear c59b0
                    try clear c59b1
                    try clear c60
                    try clear c61
                    try clear c63
                    try clear c64
                    try clear p64
                    try clear hx102_0
                    try clear hx102_1
                    try clear hx102_2
                    try clear hx102_3
                    try clear hx102_4
                    try clear hx102_5
                    try clear hx102_6
                    try clear hx102_7
                    try clear p1
                    try clear p10
                    try clear p102
                    try clear p2
                    try clear p6
                    try clear q1
                    try clear q10
                    try clear q102
                    obtain ⟨kq, x34_57, rfl, HA, HJ57, BK101, BK103, HI0, HK, HB⟩ := hcut
                    cases kq with
                    | zero => exact absurd HA.out (by simp [partitaref10_Walk_on.j4])
                    | succ kj57 =>
                      have H := HA.out
                      clear HA
                      simp only [partitaref10_Walk_on.j4] at H
                      by_cases c67 : x34_57 = true
                      · subst c67
                        have H1 : (some (wrap64 (s0_0 + 1), s0_1, s0_2, x1003_50, s0_4, s0_5, s0_6, s0_7)) = some (r1, r2, r3, r4, r5, r6, r7, r8) := by rw [if_pos rfl] at H; exact H
                        clear H
                        have H := H1
                        clear H1
                        simp only [Option.some.injEq, Prod.mk.injEq] at H
                        obtain ⟨rfl, rfl, rfl, rfl, rfl, rfl, rfl, rfl⟩ := H
                        have hz68 := cells8 HI0.out.1
                        go_wp2
                        first | go_end0 | ((try simp only [Exit.inBlock, Exit.then]); refine bodyPost_ret (results_none rfl _ _ _) rfl ?_)
                        exact ⟨qq2, by repeat (first | (with_reducible first | exact HI0.out | apply IsS64.alloc | apply IsS64.drewN | apply IsS64.drew | apply IsS64.set_0 | apply IsS64.set_1 | apply IsS64.set_2 | apply IsS64.set_3 | apply IsS64.set_4 | apply IsS64.set_5 | apply IsS64.set_6 | apply IsS64.set_7 | refine IsS64.far ?_ NB0_101.out _ | refine IsS64.far ?_ NB0_103.out _) | exact HI0.out), by repeat (first | (with_reducible first | exact HB.out | apply below_alloc | apply pw_below_drewN | apply below_drew1 | refine below_set ?_ (IsS64.ge HI0.out) | refine below_set ?_ GE101.out | refine below_set ?_ GE103.out) | exact HB.out), by repeat (first | (with_reducible first | exact HK.out | apply KeepBut.set_ | apply keep_drewN | apply keep_drew | apply keep_alloc | refine keep_far ?_ GW101.out _ | refine keep_far ?_ GW103.out _) | exact HK.out)⟩
                      replace c67 := Bool.eq_false_iff.mpr c67
                      subst c67
                      have H1 : ((partitaref10_forFine.f ((rd_T38 l1 s0_0).f7)).bind fun t112 => ((partitaref10_forCoda.f ((rd_T38 l1 s0_0).f7)).bind fun t113 => ((partitaref10_toSign.f ((rd_T38 l1 s0_0).f7)).bind fun t114 => (if t114 = true then ((partitaref10_Walk_goTo.f s0_0 s0_1 s0_2 x1003_50 true t112 t113 s0_7 a2_0).bind fun bt115 => (some (bt115.1, bt115.2.1, bt115.2.2.1, bt115.2.2.2.1, bt115.2.2.2.2.1, bt115.2.2.2.2.2.1, bt115.2.2.2.2.2.2.1, bt115.2.2.2.2.2.2.2))) else ((partitaref10_Walk_goTo.f s0_0 s0_1 s0_2 x1003_50 true t112 t113 s0_7 0).bind fun bt123 => (some (bt123.1, bt123.2.1, bt123.2.2.1, bt123.2.2.2.1, bt123.2.2.2.2.1, bt123.2.2.2.2.2.1, bt123.2.2.2.2.2.2.1, bt123.2.2.2.2.2.2.2))))))) = some (r1, r2, r3, r4, r5, r6, r7, r8) := by rw [if_neg (show ¬ (false = true) by decide)] at H; exact H
                      clear H
                      have H := H1
                      clear H1
                      replace H := Option.bind_eq_some_iff.mp H
                      obtain ⟨t112, A690, H⟩ := H
                      try dsimp -simprocs only at H
                      have A69 := Aside0.mk A690
                      clear A690
                      replace H := Option.bind_eq_some_iff.mp H
                      obtain ⟨t113, A700, H⟩ := H
                      try dsimp -simprocs only at H
                      have A70 := Aside0.mk A700
                      clear A700
                      replace H := Option.bind_eq_some_iff.mp H
                      obtain ⟨t114, A710, H⟩ := H
                      try dsimp -simprocs only at H
                      have A71 := Aside0.mk A710
                      clear A710
                      by_cases c72 : t114 = true
                      · subst c72
                        have H1 : ((partitaref10_Walk_goTo.f s0_0 s0_1 s0_2 x1003_50 true t112 t113 s0_7 a2_0).bind fun bt115 => (some (bt115.1, bt115.2.1, bt115.2.2.1, bt115.2.2.2.1, bt115.2.2.2.2.1, bt115.2.2.2.2.2.1, bt115.2.2.2.2.2.2.1, bt115.2.2.2.2.2.2.2))) = some (r1, r2, r3, r4, r5, r6, r7, r8) := by rw [if_pos rfl] at H; exact H
                        clear H
                        have H := H1
                        clear H1
                        replace H := Option.bind_eq_some_iff.mp H
                        obtain ⟨⟨t115, t116, t117, t118, t119, t120, t121, t122⟩, A730, H⟩ := H
                        try dsimp -simprocs only at H
                        have A73 := Aside0.mk A730
                        clear A730
                        simp only [Option.some.injEq, Prod.mk.injEq] at H
                        obtain ⟨rfl, rfl, rfl, rfl, rfl, rfl, rfl, rfl⟩ := H
                        have hz74 := cells8 HI0.out.1
                        have hnb75 := NB103_101.out
                        have hnc75 := NB101_103.out
                        have hnb76 := NB103_0.out
                        have hnc76 := NB0_103.out
                        have hz77 := cells8 BK103.out
                        go_wp2_with (first | (go_at_call 34; (with_reducible refine (partitaref10_forFine.calls ((rd_T38 l1 s0_0).f7) t112 _ A69.out).mono ?_); rintro e w' ⟨rfl, ⟨nd, rfl⟩⟩; (try first | exact ⟨rfl, _, World.drewN_drewN _ _ _⟩ | exact ⟨rfl, _, Eq.trans (World.drewN_drewN _ _ _) (congrArg (World.drewN _) (Nat.add_assoc _ _ _))⟩)) | (go_at_call 35; (with_reducible refine (partitaref10_forCoda.calls ((rd_T38 l1 s0_0).f7) t113 _ A70.out).mono ?_); rintro e w' ⟨rfl, ⟨nd, rfl⟩⟩; (try first | exact ⟨rfl, _, World.drewN_drewN _ _ _⟩ | exact ⟨rfl, _, Eq.trans (World.drewN_drewN _ _ _) (congrArg (World.drewN _) (Nat.add_assoc _ _ _))⟩)) | (go_at_call 33; (with_reducible refine (partitaref10_toSign.calls ((rd_T38 l1 s0_0).f7) true _ A71.out).mono ?_); rintro e w' ⟨rfl, ⟨nd, rfl⟩⟩; (try first | exact ⟨rfl, _, World.drewN_drewN _ _ _⟩ | exact ⟨rfl, _, Eq.trans (World.drewN_drewN _ _ _) (congrArg (World.drewN _) (Nat.add_assoc _ _ _))⟩); have hnb78 := NB101_0.out; have hnc78 := NB0_101.out; have hz79 := cells5 BK101.out) | (go_at_call 43; (with_reducible refine (partitaref10_Walk_goTo.calls g s0_0 s0_1 s0_2 x1003_50 true t112 t113 s0_7 a2_0 t115 t116 t117 t118 t119 t120 t121 t122 w0 _ ?side1 ?side2 A73.out).mono ?_); (case side1 => repeat (first | (with_reducible first | exact HI0.out | apply IsS64.alloc | apply IsS64.drewN | apply IsS64.drew | apply IsS64.set_0 | apply IsS64.set_1 | apply IsS64.set_2 | apply IsS64.set_3 | apply IsS64.set_4 | apply IsS64.set_5 | apply IsS64.set_6 | apply IsS64.set_7 | refine IsS64.far ?_ NB0_101.out _ | refine IsS64.far ?_ NB0_103.out _) | exact HI0.out)); (case side2 => repeat (first | (with_reducible first | exact HB.out | apply below_alloc | apply pw_below_drewN | apply below_drew1 | refine below_set ?_ (IsS64.ge HI0.out) | refine below_set ?_ GE101.out | refine below_set ?_ GE103.out) | exact HB.out)); rintro e w80 ⟨rfl, hi, hb, hk⟩; replace BK101 := Aside0.mk (KeepBut.blk hk (g' := gb101) (o := .cells #[.int .i64 a2_0, .int .i64 a2_1, .int .i64 a2_2, .bool a2_3, .bool a2_4] 55 (0, 0)) (by refine bq ?_; refine blk_far ?_ NB101_0.out _; refine bq ?_; refine blk_far ?_ NB101_0.out _; refine bq ?_; refine blk_far ?_ NB101_0.out _; exact bq BK101.out) NB101_0.out (by simp)); replace BK103 := Aside0.mk (KeepBut.blk hk (g' := gb103) (o := .cells #[.bool ((rd_T38 l1 s0_0).f0), .int .i64 ((rd_T38 l1 s0_0).f1), .slice A102_2 ((rd_T38 l1 s0_0).f2).length c102_2, .bool ((rd_T38 l1 s0_0).f3), .bool ((rd_T38 l1 s0_0).f4), .bool ((rd_T38 l1 s0_0).f5), .bool ((rd_T38 l1 s0_0).f6), .int .i64 ((rd_T38 l1 s0_0).f7)] 38 (0, 0)) (by refine bq ?_; refine blk_far ?_ NB103_0.out _; refine bq ?_; refine blk_far ?_ NB103_0.out _; refine bq ?_; refine blk_far ?_ NB103_0.out _; exact bq BK103.out) NB103_0.out (by simp)); replace HK := Aside0.mk (KeepBut.trans (by repeat (first | (with_reducible first | exact HK.out | apply KeepBut.set_ | apply keep_drewN | apply keep_drew | apply keep_alloc | refine keep_far ?_ GW101.out _ | refine keep_far ?_ GW103.out _) | exact HK.out)) hk (.inl rfl)); replace HB := Aside0.mk (hb); replace HI0 := Aside0.mk (hi); (try clear hb); (try clear hb2); (try clear hk); (try clear hi)))
                        first | go_end0 | ((try simp only [Exit.inBlock, Exit.then]); refine bodyPost_ret (results_none rfl _ _ _) rfl ?_)
                        exact ⟨qq2, by repeat (first | (with_reducible first | exact HI0.out | apply IsS64.alloc | apply IsS64.drewN | apply IsS64.drew | apply IsS64.set_0 | apply IsS64.set_1 | apply IsS64.set_2 | apply IsS64.set_3 | apply IsS64.set_4 | apply IsS64.set_5 | apply IsS64.set_6 | apply IsS64.set_7 | refine IsS64.far ?_ NB0_101.out _ | refine IsS64.far ?_ NB0_103.out _) | exact HI0.out), by repeat (first | (with_reducible first | exact HB.out | apply below_alloc | apply pw_below_drewN | apply below_drew1 | refine below_set ?_ (IsS64.ge HI0.out) | refine below_set ?_ GE101.out | refine below_set ?_ GE103.out) | exact HB.out), by repeat (first | (with_reducible first | exact HK.out | apply KeepBut.set_ | apply keep_drewN | apply keep_drew | apply keep_alloc | refine keep_far ?_ GW101.out _ | refine keep_far ?_ GW103.out _) | exact HK.out)⟩
                      replace c72 := Bool.eq_false_iff.mpr c72
                      subst c72
                      have H1 : ((partitaref10_Walk_goTo.f s0_0 s0_1 s0_2 x1003_50 true t112 t113 s0_7 0).bind fun bt123 => (some (bt123.1, bt123.2.1, bt123.2.2.1, bt123.2.2.2.1, bt123.2.2.2.2.1, bt123.2.2.2.2.2.1, bt123.2.2.2.2.2.2.1, bt123.2.2.2.2.2.2.2))) = some (r1, r2, r3, r4, r5, r6, r7, r8) := by rw [if_neg (show ¬ (false = true) by decide)] at H; exact H
                      clear H
                      have H := H1
                      clear H1
                      replace H := Option.bind_eq_some_iff.mp H
                      obtain ⟨⟨t123, t124, t125, t126, t127, t128, t129, t130⟩, A810, H⟩ := H
                      try dsimp -simprocs only at H
                      have A81 := Aside0.mk A810
                      clear A810
                      simp only [Option.some.injEq, Prod.mk.injEq] at H
                      obtain ⟨rfl, rfl, rfl, rfl, rfl, rfl, rfl, rfl⟩ := H
                      have hz82 := cells8 HI0.out.1
                      have hnb83 := NB103_101.out
                      have hnc83 := NB101_103.out
                      have hnb84 := NB103_0.out
                      have hnc84 := NB0_103.out
                      have hz85 := cells8 BK103.out
                      go_wp2_with (first | (go_at_call 34; (with_reducible refine (partitaref10_forFine.calls ((rd_T38 l1 s0_0).f7) t112 _ A69.out).mono ?_); rintro e w' ⟨rfl, ⟨nd, rfl⟩⟩; (try first | exact ⟨rfl, _, World.drewN_drewN _ _ _⟩ | exact ⟨rfl, _, Eq.trans (World.drewN_drewN _ _ _) (congrArg (World.drewN _) (Nat.add_assoc _ _ _))⟩)) | (go_at_call 35; (with_reducible refine (partitaref10_forCoda.calls ((rd_T38 l1 s0_0).f7) t113 _ A70.out).mono ?_); rintro e w' ⟨rfl, ⟨nd, rfl⟩⟩; (try first | exact ⟨rfl, _, World.drewN_drewN _ _ _⟩ | exact ⟨rfl, _, Eq.trans (World.drewN_drewN _ _ _) (congrArg (World.drewN _) (Nat.add_assoc _ _ _))⟩)) | (go_at_call 33; (with_reducible refine (partitaref10_toSign.calls ((rd_T38 l1 s0_0).f7) false _ A71.out).mono ?_); rintro e w' ⟨rfl, ⟨nd, rfl⟩⟩; (try first | exact ⟨rfl, _, World.drewN_drewN _ _ _⟩ | exact ⟨rfl, _, Eq.trans (World.drewN_drewN _ _ _) (congrArg (World.drewN _) (Nat.add_assoc _ _ _))⟩)) | (go_at_call 43; (with_reducible refine (partitaref10_Walk_goTo.calls g s0_0 s0_1 s0_2 x1003_50 true t112 t113 s0_7 0 t123 t124 t125 t126 t127 t128 t129 t130 w0 _ ?side1 ?side2 A81.out).mono ?_); (case side1 => repeat (first | (with_reducible first | exact HI0.out | apply IsS64.alloc | apply IsS64.drewN | apply IsS64.drew | apply IsS64.set_0 | apply IsS64.set_1 | apply IsS64.set_2 | apply IsS64.set_3 | apply IsS64.set_4 | apply IsS64.set_5 | apply IsS64.set_6 | apply IsS64.set_7 | refine IsS64.far ?_ NB0_101.out _ | refine IsS64.far ?_ NB0_103.out _) | exact HI0.out)); (case side2 => repeat (first | (with_reducible first | exact HB.out | apply below_alloc | apply pw_below_drewN | apply below_drew1 | refine below_set ?_ (IsS64.ge HI0.out) | refine below_set ?_ GE101.out | refine below_set ?_ GE103.out) | exact HB.out)); rintro e w86 ⟨rfl, hi, hb, hk⟩; replace BK101 := Aside0.mk (KeepBut.blk hk (g' := gb101) (o := .cells #[.int .i64 a2_0, .int .i64 a2_1, .int .i64 a2_2, .bool a2_3, .bool a2_4] 55 (0, 0)) (by refine bq ?_; refine blk_far ?_ NB101_0.out _; refine bq ?_; refine blk_far ?_ NB101_0.out _; refine bq ?_; refine blk_far ?_ NB101_0.out _; exact bq BK101.out) NB101_0.out (by simp)); replace BK103 := Aside0.mk (KeepBut.blk hk (g' := gb103) (o := .cells #[.bool ((rd_T38 l1 s0_0).f0), .int .i64 ((rd_T38 l1 s0_0).f1), .slice A102_2 ((rd_T38 l1 s0_0).f2).length c102_2, .bool ((rd_T38 l1 s0_0).f3), .bool ((rd_T38 l1 s0_0).f4), .bool ((rd_T38 l1 s0_0).f5), .bool ((rd_T38 l1 s0_0).f6), .int .i64 ((rd_T38 l1 s0_0).f7)] 38 (0, 0)) (by refine bq ?_; refine blk_far ?_ NB103_0.out _; refine bq ?_; refine blk_far ?_ NB103_0.out _; refine bq ?_; refine blk_far ?_ NB103_0.out _; exact bq BK103.out) NB103_0.out (by simp)); replace HK := Aside0.mk (KeepBut.trans (by repeat (first | (with_reducible first | exact HK.out | apply KeepBut.set_ | apply keep_drewN | apply keep_drew | apply keep_alloc | refine keep_far ?_ GW101.out _ | refine keep_far ?_ GW103.out _) | exact HK.out)) hk (.inl rfl)); replace HB := Aside0.mk (hb); replace HI0 := Aside0.mk (hi); (try clear hb); (try clear hb2); (try clear hk); (try clear hi)))
                      first | go_end0 | ((try simp only [Exit.inBlock, Exit.then]); refine bodyPost_ret (results_none rfl _ _ _) rfl ?_)
                      exact ⟨qq2, by repeat (first | (with_reducible first | exact HI0.out | apply IsS64.alloc | apply IsS64.drewN | apply IsS64.drew | apply IsS64.set_0 | apply IsS64.set_1 | apply IsS64.set_2 | apply IsS64.set_3 | apply IsS64.set_4 | apply IsS64.set_5 | apply IsS64.set_6 | apply IsS64.set_7 | refine IsS64.far ?_ NB0_101.out _ | refine IsS64.far ?_ NB0_103.out _) | exact HI0.out), by repeat (first | (with_reducible first | exact HB.out | apply below_alloc | apply pw_below_drewN | apply below_drew1 | refine below_set ?_ (IsS64.ge HI0.out) | refine below_set ?_ GE101.out | refine below_set ?_ GE103.out) | exact HB.out), by repeat (first | (with_reducible first | exact HK.out | apply KeepBut.set_ | apply keep_drewN | apply keep_drew | apply keep_alloc | refine keep_far ?_ GW101.out _ | refine keep_far ?_ GW103.out _) | exact HK.out)⟩
end Go.Proofs.Ytendmmagjjhfnaa.M
