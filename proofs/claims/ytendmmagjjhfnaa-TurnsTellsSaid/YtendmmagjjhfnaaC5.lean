/- Functions and contracts printed by a program of this session (wip/tools), and texts by hand: Print, Parse, and the plain answers (part 5). -/
import Derived.Test.YtendmmagjjhfnaaCW
import Derived.Test.YtendmmagjjhfnaaC1
import Derived.Test.YtendmmagjjhfnaaC3
import Derived.Test.YtendmmagjjhfnaaC4
namespace Go.Proofs.Ytendmmagjjhfnaa.M
open Go.RowKit Go.Proofs.YtendmmagjjhfnaaW.PrintWords Go.Proofs.YtendmmagjjhfnaaW.PrintLast Go.Proofs.YtendmmagjjhfnaaW.PrintMore
attribute [local go_sem] max2_int min2_int max_two min_two max_three min_three max_four min_four
set_option linter.unusedVariables false
set_option linter.unusedSimpArgs false
mutual
def partitaref10_walk.l0 : Nat → List (S38) → List Int → List Int → Int → Int → Int → Bool → Bool → Bool → Bool → Bool → Int → Int → Int → Bool → Bool → Option (List Int × List Int × Int × Int × Int × Int × Bool × Bool × Bool × Bool × Bool)
  | 0, _, _, _, _, _, _, _, _, _, _, _, _, _, _, _, _ => none
  | k + 1, x0, x9, x10, x2000, x2001, x2002, x2003, x2004, x2005, x2006, x2007, x109000, x109001, x109002, x109003, x109004 => if x2007 = true then (partitaref10_walk.j1 k x0 x9 x10 false x2000 x2001 x2002 x2003 x2004 x2005 x2006 x2007 x109000 x109001 x109002 x109003 x109004) else (partitaref10_walk.j1 k x0 x9 x10 (decide (x2000 < (x0.length : Int))) x2000 x2001 x2002 x2003 x2004 x2005 x2006 x2007 x109000 x109001 x109002 x109003 x109004)
def partitaref10_walk.j1 : Nat → List (S38) → List Int → List Int → Bool → Int → Int → Int → Bool → Bool → Bool → Bool → Bool → Int → Int → Int → Bool → Bool → Option (List Int × List Int × Int × Int × Int × Int × Bool × Bool × Bool × Bool × Bool)
  | 0, _, _, _, _, _, _, _, _, _, _, _, _, _, _, _, _, _ => none
  | k + 1, x0, x9, x10, x37, x2000, x2001, x2002, x2003, x2004, x2005, x2006, x2007, x109000, x109001, x109002, x109003, x109004 => if x37 = true then (if 0 ≤ x2000 then (if x2000 < (x0.length : Int) then (if (rd_T38 x0 x2000).f0 = true then (if x2000 = x2002 then (if x2003 = true then (partitaref10_walk.j2 k x0 x9 x10 ((((rd_T38 x0 x2000).f2).length : Int) == 0) x2000 x2001 x2002 x2003 x2004 x2005 x2006 x2007 x109000 x109001 x109002 x109003 x109004 ((rd_T38 x0 x2000).f0) ((rd_T38 x0 x2000).f1) ((rd_T38 x0 x2000).f3) ((rd_T38 x0 x2000).f4) ((rd_T38 x0 x2000).f5) ((rd_T38 x0 x2000).f6) ((rd_T38 x0 x2000).f7)) else (partitaref10_walk.j2 k x0 x9 x10 false x2000 x2001 x2002 x2003 x2004 x2005 x2006 x2007 x109000 x109001 x109002 x109003 x109004 ((rd_T38 x0 x2000).f0) ((rd_T38 x0 x2000).f1) ((rd_T38 x0 x2000).f3) ((rd_T38 x0 x2000).f4) ((rd_T38 x0 x2000).f5) ((rd_T38 x0 x2000).f6) ((rd_T38 x0 x2000).f7))) else (partitaref10_walk.j2 k x0 x9 x10 true x2000 x2001 x2002 x2003 x2004 x2005 x2006 x2007 x109000 x109001 x109002 x109003 x109004 ((rd_T38 x0 x2000).f0) ((rd_T38 x0 x2000).f1) ((rd_T38 x0 x2000).f3) ((rd_T38 x0 x2000).f4) ((rd_T38 x0 x2000).f5) ((rd_T38 x0 x2000).f6) ((rd_T38 x0 x2000).f7))) else (if x2003 = true then (partitaref10_walk.j2 k x0 x9 x10 ((((rd_T38 x0 x2000).f2).length : Int) == 0) x2000 x2001 x2002 x2003 x2004 x2005 x2006 x2007 x109000 x109001 x109002 x109003 x109004 ((rd_T38 x0 x2000).f0) ((rd_T38 x0 x2000).f1) ((rd_T38 x0 x2000).f3) ((rd_T38 x0 x2000).f4) ((rd_T38 x0 x2000).f5) ((rd_T38 x0 x2000).f6) ((rd_T38 x0 x2000).f7)) else (partitaref10_walk.j2 k x0 x9 x10 false x2000 x2001 x2002 x2003 x2004 x2005 x2006 x2007 x109000 x109001 x109002 x109003 x109004 ((rd_T38 x0 x2000).f0) ((rd_T38 x0 x2000).f1) ((rd_T38 x0 x2000).f3) ((rd_T38 x0 x2000).f4) ((rd_T38 x0 x2000).f5) ((rd_T38 x0 x2000).f6) ((rd_T38 x0 x2000).f7)))) else (none)) else (none)) else (some (x9, x10, 0, x2000, x2001, x2002, x2003, x2004, x2005, x2006, x2007))
def partitaref10_walk.j2 : Nat → List (S38) → List Int → List Int → Bool → Int → Int → Int → Bool → Bool → Bool → Bool → Bool → Int → Int → Int → Bool → Bool → Bool → Int → Bool → Bool → Bool → Bool → Int → Option (List Int × List Int × Int × Int × Int × Int × Bool × Bool × Bool × Bool × Bool)
  | 0, _, _, _, _, _, _, _, _, _, _, _, _, _, _, _, _, _, _, _, _, _, _, _, _ => none
  | k + 1, x0, x9, x10, x69, x2000, x2001, x2002, x2003, x2004, x2005, x2006, x2007, x109000, x109001, x109002, x109003, x109004, x111000, x111001, x111003, x111004, x111005, x111006, x111007 => if x69 = true then ((partitaref10_Walk_goTo.f x2000 x2001 x2002 x2003 x2004 x2005 x2006 x2007 x2000).bind fun bt111 => (partitaref10_walk.j3 k x0 x9 x10 bt111.1 bt111.2.1 bt111.2.2.1 bt111.2.2.2.1 bt111.2.2.2.2.1 bt111.2.2.2.2.2.1 bt111.2.2.2.2.2.2.1 bt111.2.2.2.2.2.2.2 x109000 x109001 x109002 x109003 x109004 x111000 x111001 x111003 x111004 x111005 x111006 x111007)) else (partitaref10_walk.j3 k x0 x9 x10 x2000 x2001 x2002 x2003 x2004 x2005 x2006 x2007 x109000 x109001 x109002 x109003 x109004 x111000 x111001 x111003 x111004 x111005 x111006 x111007)
def partitaref10_walk.j3 : Nat → List (S38) → List Int → List Int → Int → Int → Int → Bool → Bool → Bool → Bool → Bool → Int → Int → Int → Bool → Bool → Bool → Int → Bool → Bool → Bool → Bool → Int → Option (List Int × List Int × Int × Int × Int × Int × Bool × Bool × Bool × Bool × Bool)
  | 0, _, _, _, _, _, _, _, _, _, _, _, _, _, _, _, _, _, _, _, _, _, _, _ => none
  | k + 1, x0, x9, x10, x2000, x2001, x2002, x2003, x2004, x2005, x2006, x2007, x109000, x109001, x109002, x109003, x109004, x111000, x111001, x111003, x111004, x111005, x111006, x111007 => (partitaref10_Walk_stands.f k x2000 x2001 x2002 x2003 x2004 x2005 x2006 x2007 x0).bind fun bt119 => (if bt119.1 = true then (if (x9.length : Int) = 2000 then (some (([] : List Int), ([] : List Int), 101, bt119.2.1, bt119.2.2.1, bt119.2.2.2.1, bt119.2.2.2.2.1, bt119.2.2.2.2.2.1, bt119.2.2.2.2.2.2.1, bt119.2.2.2.2.2.2.2.1, bt119.2.2.2.2.2.2.2.2)) else (if x9.length < 17592186044416 then (if x10.length < 17592186044416 then ((partitaref10_Walk_on.f k bt119.2.1 bt119.2.2.1 bt119.2.2.2.1 bt119.2.2.2.2.1 bt119.2.2.2.2.2.1 bt119.2.2.2.2.2.2.1 bt119.2.2.2.2.2.2.2.1 bt119.2.2.2.2.2.2.2.2 x0 x109000 x109001 x109002 x109003 x109004).bind fun bt134 => (partitaref10_walk.l0 k x0 (x9 ++ [bt119.2.1]) (x10 ++ [bt119.2.2.1]) bt134.1 bt134.2.1 bt134.2.2.1 bt134.2.2.2.1 bt134.2.2.2.2.1 bt134.2.2.2.2.2.1 bt134.2.2.2.2.2.2.1 bt134.2.2.2.2.2.2.2 x109000 x109001 x109002 x109003 x109004)) else (none)) else (none))) else (if bt119.2.2.2.2.1 = true then (partitaref10_walk.l0 k x0 x9 x10 (wrap64 (bt119.2.1 + 1)) bt119.2.2.1 bt119.2.2.2.1 true bt119.2.2.2.2.2.1 bt119.2.2.2.2.2.2.1 bt119.2.2.2.2.2.2.2.1 bt119.2.2.2.2.2.2.2.2 x109000 x109001 x109002 x109003 x109004) else (if bt119.2.2.2.2.2.1 = true then (partitaref10_walk.l0 k x0 x9 x10 (wrap64 (bt119.2.1 + 1)) bt119.2.2.1 bt119.2.2.2.1 true bt119.2.2.2.2.2.1 bt119.2.2.2.2.2.2.1 bt119.2.2.2.2.2.2.2.1 bt119.2.2.2.2.2.2.2.2 x109000 x109001 x109002 x109003 x109004) else (if x111001 > 0 then (partitaref10_walk.l0 k x0 x9 x10 (wrap64 (bt119.2.1 + 1)) bt119.2.2.1 bt119.2.2.2.1 (decide (bt119.2.2.1 ≥ x111001)) bt119.2.2.2.2.2.1 bt119.2.2.2.2.2.2.1 bt119.2.2.2.2.2.2.2.1 bt119.2.2.2.2.2.2.2.2 x109000 x109001 x109002 x109003 x109004) else (partitaref10_walk.l0 k x0 x9 x10 (wrap64 (bt119.2.1 + 1)) bt119.2.2.1 bt119.2.2.2.1 false bt119.2.2.2.2.2.1 bt119.2.2.2.2.2.2.1 bt119.2.2.2.2.2.2.2.1 bt119.2.2.2.2.2.2.2.2 x109000 x109001 x109002 x109003 x109004)))))
end
def partitaref10_walk.v (k : Nat) (l0 : List (S38)) (s1_0 : Int) (s1_1 : Int) (s1_2 : Int) (s1_3 : Bool) (s1_4 : Bool) (s1_5 : Bool) (s1_6 : Bool) (s1_7 : Bool) : Option (List Int × List Int × Int × Int × Int × Int × Bool × Bool × Bool × Bool × Bool) := (partitaref10_Check.f k l0).bind fun bt101 => (if bt101.2 = 0 then ((partitaref10_seen.f k l0).bind fun bt103 => (partitaref10_walk.l0 k l0 ([] : List Int) ([] : List Int) s1_0 s1_1 s1_2 s1_3 s1_4 s1_5 s1_6 s1_7 bt103.1 bt103.2.1 bt103.2.2.1 bt103.2.2.2.1 bt103.2.2.2.2)) else (some (([] : List Int), ([] : List Int), bt101.2, s1_0, s1_1, s1_2, s1_3, s1_4, s1_5, s1_6, s1_7)))
theorem partitaref10_walk.mono_l : ∀ k, (∀ y0 y1 y2 y3 y4 y5 y6 y7 y8 y9 y10 y11 y12 y13 y14 y15, LeO (partitaref10_walk.l0 k y0 y1 y2 y3 y4 y5 y6 y7 y8 y9 y10 y11 y12 y13 y14 y15) (partitaref10_walk.l0 (k + 1) y0 y1 y2 y3 y4 y5 y6 y7 y8 y9 y10 y11 y12 y13 y14 y15)) ∧ (∀ y0 y1 y2 y3 y4 y5 y6 y7 y8 y9 y10 y11 y12 y13 y14 y15 y16, LeO (partitaref10_walk.j1 k y0 y1 y2 y3 y4 y5 y6 y7 y8 y9 y10 y11 y12 y13 y14 y15 y16) (partitaref10_walk.j1 (k + 1) y0 y1 y2 y3 y4 y5 y6 y7 y8 y9 y10 y11 y12 y13 y14 y15 y16)) ∧ (∀ y0 y1 y2 y3 y4 y5 y6 y7 y8 y9 y10 y11 y12 y13 y14 y15 y16 y17 y18 y19 y20 y21 y22 y23, LeO (partitaref10_walk.j2 k y0 y1 y2 y3 y4 y5 y6 y7 y8 y9 y10 y11 y12 y13 y14 y15 y16 y17 y18 y19 y20 y21 y22 y23) (partitaref10_walk.j2 (k + 1) y0 y1 y2 y3 y4 y5 y6 y7 y8 y9 y10 y11 y12 y13 y14 y15 y16 y17 y18 y19 y20 y21 y22 y23)) ∧ (∀ y0 y1 y2 y3 y4 y5 y6 y7 y8 y9 y10 y11 y12 y13 y14 y15 y16 y17 y18 y19 y20 y21 y22, LeO (partitaref10_walk.j3 k y0 y1 y2 y3 y4 y5 y6 y7 y8 y9 y10 y11 y12 y13 y14 y15 y16 y17 y18 y19 y20 y21 y22) (partitaref10_walk.j3 (k + 1) y0 y1 y2 y3 y4 y5 y6 y7 y8 y9 y10 y11 y12 y13 y14 y15 y16 y17 y18 y19 y20 y21 y22))
  | 0 => ⟨fun _ _ _ _ _ _ _ _ _ _ _ _ _ _ _ _ r h => by simp [partitaref10_walk.l0] at h, fun _ _ _ _ _ _ _ _ _ _ _ _ _ _ _ _ _ r h => by simp [partitaref10_walk.j1] at h, fun _ _ _ _ _ _ _ _ _ _ _ _ _ _ _ _ _ _ _ _ _ _ _ _ r h => by simp [partitaref10_walk.j2] at h, fun _ _ _ _ _ _ _ _ _ _ _ _ _ _ _ _ _ _ _ _ _ _ _ r h => by simp [partitaref10_walk.j3] at h⟩
  | k + 1 => by
    obtain ⟨ih0, ih1, ih2, ih3⟩ := partitaref10_walk.mono_l k
    refine ⟨?_, ?_, ?_, ?_⟩
    · intro y0 y1 y2 y3 y4 y5 y6 y7 y8 y9 y10 y11 y12 y13 y14 y15
      unfold partitaref10_walk.l0
      repeat' first
      | (with_reducible exact ih0 _ _ _ _ _ _ _ _ _ _ _ _ _ _ _ _)
      | (with_reducible exact ih1 _ _ _ _ _ _ _ _ _ _ _ _ _ _ _ _ _)
      | (with_reducible exact ih2 _ _ _ _ _ _ _ _ _ _ _ _ _ _ _ _ _ _ _ _ _ _ _ _)
      | (with_reducible exact ih3 _ _ _ _ _ _ _ _ _ _ _ _ _ _ _ _ _ _ _ _ _ _ _)
      | (with_reducible exact partitaref10_Check.mono _ _)
      | (with_reducible exact partitaref10_Walk_on.mono _ _ _ _ _ _ _ _ _ _ _ _ _ _ _)
      | (with_reducible exact partitaref10_Walk_stands.mono _ _ _ _ _ _ _ _ _ _)
      | (with_reducible exact partitaref10_seen.mono _ _)
      | (with_reducible exact LeO.refl _)
      | (with_reducible exact LeO.none _)
      | (with_reducible refine LeO.ite ?_ ?_)
      | (with_reducible refine LeO.bind ?_ (fun _ => ?_))
      | exact ih0 _ _ _ _ _ _ _ _ _ _ _ _ _ _ _ _
      | exact ih1 _ _ _ _ _ _ _ _ _ _ _ _ _ _ _ _ _
      | exact ih2 _ _ _ _ _ _ _ _ _ _ _ _ _ _ _ _ _ _ _ _ _ _ _ _
      | exact ih3 _ _ _ _ _ _ _ _ _ _ _ _ _ _ _ _ _ _ _ _ _ _ _
      | exact partitaref10_Check.mono _ _
      | exact partitaref10_Walk_on.mono _ _ _ _ _ _ _ _ _ _ _ _ _ _ _
      | exact partitaref10_Walk_stands.mono _ _ _ _ _ _ _ _ _ _
      | exact partitaref10_seen.mono _ _
      | exact LeO.none _
      | refine LeO.ite ?_ ?_
      | refine LeO.bind ?_ (fun _ => ?_)
    · intro y0 y1 y2 y3 y4 y5 y6 y7 y8 y9 y10 y11 y12 y13 y14 y15 y16
      unfold partitaref10_walk.j1
      repeat' first
      | (with_reducible exact ih0 _ _ _ _ _ _ _ _ _ _ _ _ _ _ _ _)
      | (with_reducible exact ih1 _ _ _ _ _ _ _ _ _ _ _ _ _ _ _ _ _)
      | (with_reducible exact ih2 _ _ _ _ _ _ _ _ _ _ _ _ _ _ _ _ _ _ _ _ _ _ _ _)
      | (with_reducible exact ih3 _ _ _ _ _ _ _ _ _ _ _ _ _ _ _ _ _ _ _ _ _ _ _)
      | (with_reducible exact partitaref10_Check.mono _ _)
      | (with_reducible exact partitaref10_Walk_on.mono _ _ _ _ _ _ _ _ _ _ _ _ _ _ _)
      | (with_reducible exact partitaref10_Walk_stands.mono _ _ _ _ _ _ _ _ _ _)
      | (with_reducible exact partitaref10_seen.mono _ _)
      | (with_reducible exact LeO.refl _)
      | (with_reducible exact LeO.none _)
      | (with_reducible refine LeO.ite ?_ ?_)
      | (with_reducible refine LeO.bind ?_ (fun _ => ?_))
      | exact ih0 _ _ _ _ _ _ _ _ _ _ _ _ _ _ _ _
      | exact ih1 _ _ _ _ _ _ _ _ _ _ _ _ _ _ _ _ _
      | exact ih2 _ _ _ _ _ _ _ _ _ _ _ _ _ _ _ _ _ _ _ _ _ _ _ _
      | exact ih3 _ _ _ _ _ _ _ _ _ _ _ _ _ _ _ _ _ _ _ _ _ _ _
      | exact partitaref10_Check.mono _ _
      | exact partitaref10_Walk_on.mono _ _ _ _ _ _ _ _ _ _ _ _ _ _ _
      | exact partitaref10_Walk_stands.mono _ _ _ _ _ _ _ _ _ _
      | exact partitaref10_seen.mono _ _
      | exact LeO.none _
      | refine LeO.ite ?_ ?_
      | refine LeO.bind ?_ (fun _ => ?_)
    · intro y0 y1 y2 y3 y4 y5 y6 y7 y8 y9 y10 y11 y12 y13 y14 y15 y16 y17 y18 y19 y20 y21 y22 y23
      unfold partitaref10_walk.j2
      repeat' first
      | (with_reducible exact ih0 _ _ _ _ _ _ _ _ _ _ _ _ _ _ _ _)
      | (with_reducible exact ih1 _ _ _ _ _ _ _ _ _ _ _ _ _ _ _ _ _)
      | (with_reducible exact ih2 _ _ _ _ _ _ _ _ _ _ _ _ _ _ _ _ _ _ _ _ _ _ _ _)
      | (with_reducible exact ih3 _ _ _ _ _ _ _ _ _ _ _ _ _ _ _ _ _ _ _ _ _ _ _)
      | (with_reducible exact partitaref10_Check.mono _ _)
      | (with_reducible exact partitaref10_Walk_on.mono _ _ _ _ _ _ _ _ _ _ _ _ _ _ _)
      | (with_reducible exact partitaref10_Walk_stands.mono _ _ _ _ _ _ _ _ _ _)
      | (with_reducible exact partitaref10_seen.mono _ _)
      | (with_reducible exact LeO.refl _)
      | (with_reducible exact LeO.none _)
      | (with_reducible refine LeO.ite ?_ ?_)
      | (with_reducible refine LeO.bind ?_ (fun _ => ?_))
      | exact ih0 _ _ _ _ _ _ _ _ _ _ _ _ _ _ _ _
      | exact ih1 _ _ _ _ _ _ _ _ _ _ _ _ _ _ _ _ _
      | exact ih2 _ _ _ _ _ _ _ _ _ _ _ _ _ _ _ _ _ _ _ _ _ _ _ _
      | exact ih3 _ _ _ _ _ _ _ _ _ _ _ _ _ _ _ _ _ _ _ _ _ _ _
      | exact partitaref10_Check.mono _ _
      | exact partitaref10_Walk_on.mono _ _ _ _ _ _ _ _ _ _ _ _ _ _ _
      | exact partitaref10_Walk_stands.mono _ _ _ _ _ _ _ _ _ _
      | exact partitaref10_seen.mono _ _
      | exact LeO.none _
      | refine LeO.ite ?_ ?_
      | refine LeO.bind ?_ (fun _ => ?_)
    · intro y0 y1 y2 y3 y4 y5 y6 y7 y8 y9 y10 y11 y12 y13 y14 y15 y16 y17 y18 y19 y20 y21 y22
      unfold partitaref10_walk.j3
      repeat' first
      | (with_reducible exact ih0 _ _ _ _ _ _ _ _ _ _ _ _ _ _ _ _)
      | (with_reducible exact ih1 _ _ _ _ _ _ _ _ _ _ _ _ _ _ _ _ _)
      | (with_reducible exact ih2 _ _ _ _ _ _ _ _ _ _ _ _ _ _ _ _ _ _ _ _ _ _ _ _)
      | (with_reducible exact ih3 _ _ _ _ _ _ _ _ _ _ _ _ _ _ _ _ _ _ _ _ _ _ _)
      | (with_reducible exact partitaref10_Check.mono _ _)
      | (with_reducible exact partitaref10_Walk_on.mono _ _ _ _ _ _ _ _ _ _ _ _ _ _ _)
      | (with_reducible exact partitaref10_Walk_stands.mono _ _ _ _ _ _ _ _ _ _)
      | (with_reducible exact partitaref10_seen.mono _ _)
      | (with_reducible exact LeO.refl _)
      | (with_reducible exact LeO.none _)
      | (with_reducible refine LeO.ite ?_ ?_)
      | (with_reducible refine LeO.bind ?_ (fun _ => ?_))
      | exact ih0 _ _ _ _ _ _ _ _ _ _ _ _ _ _ _ _
      | exact ih1 _ _ _ _ _ _ _ _ _ _ _ _ _ _ _ _ _
      | exact ih2 _ _ _ _ _ _ _ _ _ _ _ _ _ _ _ _ _ _ _ _ _ _ _ _
      | exact ih3 _ _ _ _ _ _ _ _ _ _ _ _ _ _ _ _ _ _ _ _ _ _ _
      | exact partitaref10_Check.mono _ _
      | exact partitaref10_Walk_on.mono _ _ _ _ _ _ _ _ _ _ _ _ _ _ _
      | exact partitaref10_Walk_stands.mono _ _ _ _ _ _ _ _ _ _
      | exact partitaref10_seen.mono _ _
      | exact LeO.none _
      | refine LeO.ite ?_ ?_
      | refine LeO.bind ?_ (fun _ => ?_)
theorem partitaref10_walk.vmono : ∀ a0 a1 a2 a3 a4 a5 a6 a7 a8 k, LeO (partitaref10_walk.v k a0 a1 a2 a3 a4 a5 a6 a7 a8) (partitaref10_walk.v (k + 1) a0 a1 a2 a3 a4 a5 a6 a7 a8) := by
  intro a0 a1 a2 a3 a4 a5 a6 a7 a8 k
  obtain ⟨ih0, ih1, ih2, ih3⟩ := partitaref10_walk.mono_l k
  unfold partitaref10_walk.v
  repeat' first
      | (with_reducible exact ih0 _ _ _ _ _ _ _ _ _ _ _ _ _ _ _ _)
      | (with_reducible exact ih1 _ _ _ _ _ _ _ _ _ _ _ _ _ _ _ _ _)
      | (with_reducible exact ih2 _ _ _ _ _ _ _ _ _ _ _ _ _ _ _ _ _ _ _ _ _ _ _ _)
      | (with_reducible exact ih3 _ _ _ _ _ _ _ _ _ _ _ _ _ _ _ _ _ _ _ _ _ _ _)
      | (with_reducible exact partitaref10_Check.mono _ _)
      | (with_reducible exact partitaref10_Walk_on.mono _ _ _ _ _ _ _ _ _ _ _ _ _ _ _)
      | (with_reducible exact partitaref10_Walk_stands.mono _ _ _ _ _ _ _ _ _ _)
      | (with_reducible exact partitaref10_seen.mono _ _)
      | (with_reducible exact LeO.refl _)
      | (with_reducible exact LeO.none _)
      | (with_reducible refine LeO.ite ?_ ?_)
      | (with_reducible refine LeO.bind ?_ (fun _ => ?_))
      | exact ih0 _ _ _ _ _ _ _ _ _ _ _ _ _ _ _ _
      | exact ih1 _ _ _ _ _ _ _ _ _ _ _ _ _ _ _ _ _
      | exact ih2 _ _ _ _ _ _ _ _ _ _ _ _ _ _ _ _ _ _ _ _ _ _ _ _
      | exact ih3 _ _ _ _ _ _ _ _ _ _ _ _ _ _ _ _ _ _ _ _ _ _ _
      | exact partitaref10_Check.mono _ _
      | exact partitaref10_Walk_on.mono _ _ _ _ _ _ _ _ _ _ _ _ _ _ _
      | exact partitaref10_Walk_stands.mono _ _ _ _ _ _ _ _ _ _
      | exact partitaref10_seen.mono _ _
      | exact LeO.none _
      | refine LeO.ite ?_ ?_
      | refine LeO.bind ?_ (fun _ => ?_)
def partitaref10_walk.T10 : Bool × List (List Nat × List Nat) := (true, [([], []), ([0], [0]), ([1], [1]), ([2], [2]), ([3, 2], [2, 3]), ([4, 2], [2, 4]), ([5, 2], [2, 5]), ([2], [2]), ([7, 2], [2, 7]), ([8, 2], [2, 8]), ([9, 2], [2, 9]), ([6, 10, 2], [2, 6, 10]), ([2, 11], [2, 11]), ([12, 2], [12]), ([13], [13]), ([14, 13], [13, 14]), ([15, 13], [13, 15]), ([16, 13], [13, 16]), ([17, 13, 13], [13, 17]), ([18], [18]), ([19, 18], [18, 19]), ([20, 18], [18, 20]), ([21, 18], [18, 21]), ([18, 22, 13], [13, 18, 22]), ([13, 23], [13, 23])])
def partitaref10_walk.B10 : List Nat := [0, 1, 3, 7, 15, 31, 63, 7, 135, 391, 903, 2047, 4095, 8191, 16383, 32767, 65535, 131071, 262143, 524287, 1048575, 2097151, 4194303, 8388607, 16777215]
theorem partitaref10_walk.tab10 : rtab .any (opsOf Try.f37 10) = partitaref10_walk.T10 := by kernel_rfl
theorem partitaref10_walk.bits10 : waitsOk partitaref10_walk.T10.2 partitaref10_walk.B10 = true := by kernel_rfl
def partitaref10_walk.T13 : Bool × List (List Nat × List Nat) := (true, [([], []), ([], []), ([1], [1]), ([2], [2]), ([3], [3]), ([4], [4]), ([5], [5]), ([6, 5], [5, 6]), ([7, 5], [5, 7]), ([8, 5], [5, 8]), ([5, 9], [5, 9]), ([10, 5], [10]), ([11], [11]), ([12, 11], [11, 12]), ([13, 11], [11, 13]), ([14, 11, 11], [11, 14]), ([15], [15]), ([16, 15], [15, 16]), ([17, 15], [15, 17]), ([18, 15], [15, 18]), ([15], [15]), ([20, 15], [15, 20]), ([19, 21, 15], [15, 19, 21]), ([15, 22, 11], [11, 15, 22]), ([11, 23], [11, 23]), ([0, 0, 1, 2, 3, 4, 5, 6, 7, 8, 9, 10, 11, 12, 13, 14, 15, 16, 17, 18, 19, 20, 21, 22, 23, 24], [0]), ([25, 0, 1, 2, 3, 4, 5, 6, 7, 8, 9, 10, 11, 12, 13, 14, 15, 16, 17, 18, 19, 20, 21, 22, 23, 24], [25]), ([26, 24, 15, 0, 1, 2, 3, 4, 5, 6, 7, 8, 9, 10, 11, 12, 13, 14, 15, 16, 17, 18, 19, 20, 21, 22, 23, 24], [24, 26])])
def partitaref10_walk.B13 : List Nat := [0, 0, 2, 6, 14, 30, 62, 126, 254, 510, 1022, 2046, 4094, 8190, 16382, 32766, 65534, 131070, 262142, 524286, 65534, 1114110, 4194302, 8388606, 16777214, 33554431, 67108863, 134217727]
theorem partitaref10_walk.tab13 : rtab .any (opsOf Try.f37 13) = partitaref10_walk.T13 := by kernel_rfl
theorem partitaref10_walk.bits13 : waitsOk partitaref10_walk.T13.2 partitaref10_walk.B13 = true := by kernel_rfl
theorem k38_heap : Kd.Heap k38 := by
  unfold k38
  repeat (first | exact Kd.heap_bool | exact Kd.heap_int _ | apply Kd.heap_iso | apply Kd.heap_pair | apply Kd.heap_slice)
def partitaref10_walk.f (k : Nat) (l0 : List (S38)) : Option (List Int × List Int × Int) := (partitaref10_walk.v k l0 0 1 0 false false false false false).bind fun r => some (r.1, r.2.1, r.2.2.1)
theorem partitaref10_walk.mono : ∀ a0 k, LeO (partitaref10_walk.f k a0) (partitaref10_walk.f (k + 1) a0) := by
  intro a0 k r h
  unfold partitaref10_walk.f at h ⊢
  obtain ⟨x, hx, hr⟩ := Option.bind_eq_some_iff.mp h
  exact Option.bind_eq_some_iff.mpr ⟨x, partitaref10_walk.vmono _ _ _ _ _ _ _ _ _ k _ hx, hr⟩
set_option maxHeartbeats 8000000 in
set_option maxRecDepth 100000 in
theorem partitaref10_walk.calls (k : Nat) (A0 : Option Addr) (c0 : Nat) (l0 : List (S38)) (r1 : List Int) (r2 : List Int) (r3 : Int) (w : World) (hr0 : Kd.C k38 w A0 l0.length l0) (hc0 : l0.length ≤ c0) (h : partitaref10_walk.f k l0 = some (r1, r2, r3)) :
    Calls Try.prog 37 #[.slice A0 l0.length c0] w fun e w' => ∃ v0_ v1_ : Value, e = .returned (.tuple #[v0_, v1_, .int .i64 r3]) ∧ Kd.R (Kd.int .i64) 3 w' w.heap.size (fun k_ => some k_ ≠ (v1_ : Value).ownBlock) v0_ r1 ∧ Kd.R (Kd.int .i64) 3 w' w.heap.size (fun k_ => some k_ ≠ (v0_ : Value).ownBlock) v1_ r2 ∧ Below w.heap.size w w' := by
  have hu55 := Try.underlying55
  have hu38 := Try.underlying38
  have hu64 := Try.underlying64
  have HRb : ∀ W_, Below w.heap.size w W_ → Kd.C k38 W_ A0 l0.length l0 := fun W_ hb => Kd.C_below hr0 hb
  have HRk : ∀ g, w.heap.size ≤ g → ∀ W_, KeepBut w W_ g none → Kd.C k38 W_ A0 l0.length l0 := fun g hg W_ hk => k38_heap.C (fun k_ hlt => hk.2 k_ hlt (by omega) (by simp)) hr0
  clear hr0
  have HC0 := Aside0.mk hc0
  clear hc0
  have HW0 := Aside0.mk (Nat.le_refl w.heap.size)
  have HL := Aside0.mk (Nat.le_refl w.heap.size)
  have HB := Aside0.mk (Below.refl w.heap.size w)
  obtain ⟨⟨q1, q2, q3, r4, r5, r6, r7, r8, r9, r10, r11⟩, H, hq⟩ := Option.bind_eq_some_iff.mp h
  clear h
  simp only [Option.some.injEq, Prod.mk.injEq] at hq
  obtain ⟨hq1, hq2, hq3⟩ := hq
  subst q1; subst q2; subst q3
  unfold partitaref10_walk.v at H
  replace H := Option.bind_eq_some_iff.mp H
  obtain ⟨⟨t101, t102⟩, A30, H⟩ := H
  try dsimp -simprocs only at H
  have A3 := Aside0.mk A30
  clear A30
  by_cases c4 : t102 = 0
  rotate_left
  · rw [if_neg c4] at H
    have c4b0 : (t102 == 0) = false := beq_eq_false_iff_ne.mpr c4
    have c4b1 : (t102 != 0) = true := bne_iff_ne.mpr c4
    simp only [Option.some.injEq, Prod.mk.injEq] at H
    obtain ⟨rfl, rfl, rfl, rfl, rfl, rfl, rfl, rfl, rfl, rfl, rfl⟩ := H
    go_enter Try.func37, Try.ntmps37
    go_wp2_with (first | ((with_reducible refine gate_callee (f := 14) rfl ?_); refine goesL_ (some 14) rfl rfl Try.func14 (by kernel_rfl) rfl #[.slice A0 l0.length c0] rfl qq1 ?_; (with_reducible refine (partitaref10_Check.calls k _ _ l0 t101 t102 _ ?side1 ?side2 A3.out).mono ?_); (case side1 => exact HRb _ qqc); (case side2 => exact HC0.out); rintro e w77 ⟨rfl, hb⟩; refine ⟨_, rfl, ?_⟩; replace HB := Aside0.mk (below_step qqc hb); (try clear hb); (try clear hb2); (try clear hk); (try clear hi)))
    go_ret3
    exact ⟨_, _, qq2, qqb, qqb, qqc⟩
  rw [if_pos c4] at H
  have c4b0 : (t102 == 0) = true := beq_iff_eq.mpr c4
  have c4b1 : (t102 != 0) = false := bne_eq_false_iff_eq.mpr c4
  clear c4
  replace H := Option.bind_eq_some_iff.mp H
  obtain ⟨⟨t103, t104, t105, t106, t107⟩, A50, H⟩ := H
  try dsimp -simprocs only at H
  have A5 := Aside0.mk A50
  clear A50
  have H' := Aside0.mk H
  clear H
  go_enter Try.func37, Try.ntmps37
  go_wp2_with (first | ((with_reducible refine gate_callee (f := 14) rfl ?_); refine goesL_ (some 14) rfl rfl Try.func14 (by kernel_rfl) rfl #[.slice A0 l0.length c0] rfl qq1 ?_; (with_reducible refine (partitaref10_Check.calls k _ _ l0 t101 t102 _ ?side1 ?side2 A3.out).mono ?_); (case side1 => exact HRb _ qqc); (case side2 => exact HC0.out); rintro e w6 ⟨rfl, hb⟩; refine ⟨_, rfl, ?_⟩; replace HB := Aside0.mk (below_step qqc hb); (try clear hb); (try clear hb2); (try clear hk); (try clear hi)) | ((with_reducible refine gate_callee (f := 32) rfl ?_); refine goesL_ (some 21) rfl rfl Try.func32 (by kernel_rfl) rfl #[.slice A0 l0.length c0] rfl qq1 ?_; (with_reducible refine (partitaref10_seen.calls k _ _ l0 t103 t104 t105 t106 t107 _ ?side1 ?side2 A5.out).mono ?_); (case side1 => exact HRb _ qqc); (case side2 => exact HC0.out); rintro e w7 ⟨rfl, hb⟩; refine ⟨_, rfl, ?_⟩; replace HB := Aside0.mk (below_step qqc hb); (try clear hb); (try clear hb2); (try clear hk); (try clear hi)) | ((with_reducible refine gate_dst (N := 7) rfl ?_); (try (refine gate_guard (by rfl) ?_; dsimp only)); refine box_event ?hg (N := 7) ?hd (cs := #[.int .i64 0, .int .i64 0, .int .i64 0, .bool false, .bool false]) (t := 55) ?hr ?_; (case hd => rfl); (case hg => rfl); (case hr => exact qqj); intro gb108 hg w8 hbox hb; have GE108 := Aside0.mk ((by rw [hg]; exact below_size qqc) : w.heap.size ≤ gb108); replace HB := Aside0.mk (below_step qqc hb); have BK108 := Aside0.mk (hbox); have GW108 := GE108; clear hb hbox hg; have hz10 := cells5 BK108.out) | ((with_reducible refine gate_dst (N := 23) rfl ?_); (try (refine gate_guard (by rfl) ?_; dsimp only)); refine box_event ?hg (N := 23) ?hd (cs := #[.int .i64 0, .int .i64 1, .int .i64 0, .bool false, .bool false, .bool false, .bool false, .bool false]) (t := 64) ?hr ?_; (case hd => rfl); (case hg => rfl); (case hr => exact qqj); intro g hg w99 hbox hb; have GE1 := Aside0.mk ((by rw [hg]; exact below_size (by repeat (first | (with_reducible first | exact HB.out | apply below_alloc | apply pw_below_drewN | apply below_drew1 | refine below_set ?_ GE108.out) | exact HB.out))) : w.heap.size ≤ g); have NB108_1 := Aside0.mk ((by rw [hg]; exact Nat.ne_of_lt (blk_lt (o := .cells #[.int .i64 t103, .int .i64 t104, .int .i64 t105, .bool t106, .bool t107] 55 (0, 0)) (by (with_reducible repeat (first | refine blk_drewN ?_ _ | refine blk_drew ?_ | refine blk_alloc ?_ _)); refine blk_put (cs := #[.int .i64 t103, .int .i64 t104, .int .i64 t105, .bool t106, .bool false]) ?_ 4 _ rfl; (with_reducible repeat (first | refine blk_drewN ?_ _ | refine blk_drew ?_ | refine blk_alloc ?_ _)); refine blk_put (cs := #[.int .i64 t103, .int .i64 t104, .int .i64 t105, .bool false, .bool false]) ?_ 3 _ rfl; (with_reducible repeat (first | refine blk_drewN ?_ _ | refine blk_drew ?_ | refine blk_alloc ?_ _)); refine blk_put (cs := #[.int .i64 t103, .int .i64 t104, .int .i64 0, .bool false, .bool false]) ?_ 2 _ rfl; (with_reducible repeat (first | refine blk_drewN ?_ _ | refine blk_drew ?_ | refine blk_alloc ?_ _)); refine blk_put (cs := #[.int .i64 t103, .int .i64 0, .int .i64 0, .bool false, .bool false]) ?_ 1 _ rfl; (with_reducible repeat (first | refine blk_drewN ?_ _ | refine blk_drew ?_ | refine blk_alloc ?_ _)); refine blk_put (cs := #[.int .i64 0, .int .i64 0, .int .i64 0, .bool false, .bool false]) ?_ 0 _ rfl; (with_reducible repeat (first | refine blk_drewN ?_ _ | refine blk_drew ?_ | refine blk_alloc ?_ _)); exact BK108.out))) : gb108 ≠ g); replace BK108 := Aside0.mk (blk_below (g := gb108) (o := .cells #[.int .i64 t103, .int .i64 t104, .int .i64 t105, .bool t106, .bool t107] 55 (0, 0)) (by (with_reducible repeat (first | refine blk_drewN ?_ _ | refine blk_drew ?_ | refine blk_alloc ?_ _)); refine blk_put (cs := #[.int .i64 t103, .int .i64 t104, .int .i64 t105, .bool t106, .bool false]) ?_ 4 _ rfl; (with_reducible repeat (first | refine blk_drewN ?_ _ | refine blk_drew ?_ | refine blk_alloc ?_ _)); refine blk_put (cs := #[.int .i64 t103, .int .i64 t104, .int .i64 t105, .bool false, .bool false]) ?_ 3 _ rfl; (with_reducible repeat (first | refine blk_drewN ?_ _ | refine blk_drew ?_ | refine blk_alloc ?_ _)); refine blk_put (cs := #[.int .i64 t103, .int .i64 t104, .int .i64 0, .bool false, .bool false]) ?_ 2 _ rfl; (with_reducible repeat (first | refine blk_drewN ?_ _ | refine blk_drew ?_ | refine blk_alloc ?_ _)); refine blk_put (cs := #[.int .i64 t103, .int .i64 0, .int .i64 0, .bool false, .bool false]) ?_ 1 _ rfl; (with_reducible repeat (first | refine blk_drewN ?_ _ | refine blk_drew ?_ | refine blk_alloc ?_ _)); refine blk_put (cs := #[.int .i64 0, .int .i64 0, .int .i64 0, .bool false, .bool false]) ?_ 0 _ rfl; (with_reducible repeat (first | refine blk_drewN ?_ _ | refine blk_drew ?_ | refine blk_alloc ?_ _)); exact BK108.out) hb); have NB1_108 := Aside0.mk (Ne.symm NB108_1.out); replace HB := Aside0.mk (below_step (by repeat (first | (with_reducible first | exact HB.out | apply below_alloc | apply pw_below_drewN | apply below_drew1 | refine below_set ?_ GE108.out) | exact HB.out)) hb); have HI1 := Aside0.mk (show IsS64 w w99 g 0 1 0 false false false false false from ⟨hbox, GE1.out⟩); have HK := Aside0.mk (KeepBut.of_below HB.out g none); have HR0 := Aside0.mk (HRk g GE1.out); clear hb hbox hg; obtain ⟨HGy_, hgy_⟩ := HI1.out; have hcy0_ := cellS64_0 HGy_; have hcy1_ := cellS64_1 HGy_; have hcy2_ := cellS64_2 HGy_; have hcy3_ := cellS64_3 HGy_; have hcy4_ := cellS64_4 HGy_; have hcy5_ := cellS64_5 HGy_; have hcy6_ := cellS64_6 HGy_; have hcy7_ := cellS64_7 HGy_; clear HGy_ hgy_))
  go_loopg [9, 10] k (fun kq v9 v10 w' => ∃ (x9_1 : List Int) (x10_1 : List Int) (x2000_1 : Int) (x2001_1 : Int) (x2002_1 : Int) (x2003_1 : Bool) (x2004_1 : Bool) (x2005_1 : Bool) (x2006_1 : Bool) (x2007_1 : Bool), Aside0 (partitaref10_walk.l0 kq l0 x9_1 x10_1 x2000_1 x2001_1 x2002_1 x2003_1 x2004_1 x2005_1 x2006_1 x2007_1 t103 t104 t105 t106 t107 = some (r1, r2, r3, r4, r5, r6, r7, r8, r9, r10, r11)) ∧ Aside0 (kq ≤ k) ∧ Aside0 (Kd.R (Kd.int .i64) 3 w' w.heap.size (fun k_ => some k_ ≠ (v10 : Value).ownBlock) v9 x9_1) ∧ Aside0 (Kd.R (Kd.int .i64) 3 w' w.heap.size (fun k_ => some k_ ≠ (v9 : Value).ownBlock) v10 x10_1) ∧ Aside0 (w'.heap[gb108]? = some (.cells #[.int .i64 t103, .int .i64 t104, .int .i64 t105, .bool t106, .bool t107] 55 (0, 0))) ∧ Aside0 (IsS64 w w' g x2000_1 x2001_1 x2002_1 x2003_1 x2004_1 x2005_1 x2006_1 x2007_1) ∧ Aside0 (KeepBut w w' g none) ∧ Aside0 (Below w.heap.size w w'))
  case atStart => exact ⟨(([] : List Int)), (([] : List Int)), 0, 1, 0, false, false, false, false, false, H', ⟨Nat.le_refl _⟩, ⟨qqb⟩, ⟨qqb⟩, ⟨bq BK108.out⟩, ⟨by repeat (first | (with_reducible first | exact HI1.out | apply IsS64.alloc | apply IsS64.drewN | apply IsS64.drew | apply IsS64.set_0 | apply IsS64.set_1 | apply IsS64.set_2 | apply IsS64.set_3 | apply IsS64.set_4 | apply IsS64.set_5 | apply IsS64.set_6 | apply IsS64.set_7 | refine IsS64.far ?_ NB1_108.out _) | exact HI1.out)⟩, ⟨by repeat (first | (with_reducible first | exact HK.out | apply KeepBut.set_ | apply keep_drewN | apply keep_drew | apply keep_alloc | refine keep_far ?_ GW108.out _) | exact HK.out)⟩, ⟨by repeat (first | (with_reducible first | exact HB.out | apply below_alloc | apply pw_below_drewN | apply below_drew1 | refine below_set ?_ (IsS64.ge HI1.out) | refine below_set ?_ GE108.out) | exact HB.out)⟩⟩
  case round =>
    clear H'
    try clear c1
    try clear p2
    try clear c3
    try clear c4
    try clear c4b0
    try clear c4b1
    try clear c9
    obtain ⟨x9_1, x10_1, x2000_1, x2001_1, x2002_1, x2003_1, x2004_1, x2005_1, x2006_1, x2007_1, HA, HK1, HO_9, HO_10, BK108, HI1, HK, HB⟩ := hrel
    cases gk with
    | zero => exact absurd HA.out (by simp [partitaref10_walk.l0])
    | succ k1 =>
      have H := HA.out
      clear HA
      simp only [partitaref10_walk.l0] at H
      have HC11 := Aside0.mk H
      clear H
      go_upto_region 8 with (fail)
      go_cut [37] (fun v37 wc => ∃ (kq : Nat) (x37_10 : Bool), v37 = .bool x37_10 ∧ Aside0 (partitaref10_walk.j1 kq l0 x9_1 x10_1 x37_10 x2000_1 x2001_1 x2002_1 x2003_1 x2004_1 x2005_1 x2006_1 x2007_1 t103 t104 t105 t106 t107 = some (r1, r2, r3, r4, r5, r6, r7, r8, r9, r10, r11)) ∧ Aside0 (kq ≤ k1) ∧ Aside0 (Kd.R (Kd.int .i64) 3 wc w.heap.size (fun k_ => some k_ ≠ (u10 : Value).ownBlock) u9 x9_1) ∧ Aside0 (Kd.R (Kd.int .i64) 3 wc w.heap.size (fun k_ => some k_ ≠ (u9 : Value).ownBlock) u10 x10_1) ∧ Aside0 (wc.heap[gb108]? = some (.cells #[.int .i64 t103, .int .i64 t104, .int .i64 t105, .bool t106, .bool t107] 55 (0, 0))) ∧ Aside0 (IsS64 w wc g x2000_1 x2001_1 x2002_1 x2003_1 x2004_1 x2005_1 x2006_1 x2007_1) ∧ Aside0 (KeepBut w wc g none) ∧ Aside0 (Below w.heap.size w wc))
      case first =>
        have H := HC11.out
        clear HC11
        by_cases c12 : x2007_1 = true
        · subst c12
          have H1 : (partitaref10_walk.j1 k1 l0 x9_1 x10_1 false x2000_1 x2001_1 x2002_1 x2003_1 x2004_1 x2005_1 x2006_1 true t103 t104 t105 t106 t107) = some (r1, r2, r3, r4, r5, r6, r7, r8, r9, r10, r11) := by rw [if_pos rfl] at H; exact H
          clear H
          have H := H1
          clear H1
          have H' := Aside0.mk H
          clear H
          have hz13 := cells8 HI1.out.1
          go_wp2
          go_meet
          case rel => exact ⟨_, (false), qq3, H', ⟨by have := HK1.out; first | omega | exact Nat.le_refl _⟩, ⟨qR HO_9.out⟩, ⟨qR HO_10.out⟩, ⟨bq BK108.out⟩, ⟨by repeat (first | (with_reducible first | exact HI1.out | apply IsS64.alloc | apply IsS64.drewN | apply IsS64.drew | apply IsS64.set_0 | apply IsS64.set_1 | apply IsS64.set_2 | apply IsS64.set_3 | apply IsS64.set_4 | apply IsS64.set_5 | apply IsS64.set_6 | apply IsS64.set_7 | refine IsS64.far ?_ NB1_108.out _) | exact HI1.out)⟩, ⟨by repeat (first | (with_reducible first | exact HK.out | apply KeepBut.set_ | apply keep_drewN | apply keep_drew | apply keep_alloc | refine keep_far ?_ GW108.out _) | exact HK.out)⟩, ⟨by repeat (first | (with_reducible first | exact HB.out | apply below_alloc | apply pw_below_drewN | apply below_drew1 | refine below_set ?_ (IsS64.ge HI1.out) | refine below_set ?_ GE108.out) | exact HB.out)⟩⟩
        replace c12 := Bool.eq_false_iff.mpr c12
        subst c12
        have H1 : (partitaref10_walk.j1 k1 l0 x9_1 x10_1 (decide (x2000_1 < (l0.length : Int))) x2000_1 x2001_1 x2002_1 x2003_1 x2004_1 x2005_1 x2006_1 false t103 t104 t105 t106 t107) = some (r1, r2, r3, r4, r5, r6, r7, r8, r9, r10, r11) := by rw [if_neg (show ¬ (false = true) by decide)] at H; exact H
        clear H
        have H := H1
        clear H1
        have H' := Aside0.mk H
        clear H
        have hz14 := cells8 HI1.out.1
        go_wp2
        go_meet
        case rel => exact ⟨_, (decide (x2000_1 < (l0.length : Int))), qq3, H', ⟨by have := HK1.out; first | omega | exact Nat.le_refl _⟩, ⟨qR HO_9.out⟩, ⟨qR HO_10.out⟩, ⟨bq BK108.out⟩, ⟨by repeat (first | (with_reducible first | exact HI1.out | apply IsS64.alloc | apply IsS64.drewN | apply IsS64.drew | apply IsS64.set_0 | apply IsS64.set_1 | apply IsS64.set_2 | apply IsS64.set_3 | apply IsS64.set_4 | apply IsS64.set_5 | apply IsS64.set_6 | apply IsS64.set_7 | refine IsS64.far ?_ NB1_108.out _) | exact HI1.out)⟩, ⟨by repeat (first | (with_reducible first | exact HK.out | apply KeepBut.set_ | apply keep_drewN | apply keep_drew | apply keep_alloc | refine keep_far ?_ GW108.out _) | exact HK.out)⟩, ⟨by repeat (first | (with_reducible first | exact HB.out | apply below_alloc | apply pw_below_drewN | apply below_drew1 | refine below_set ?_ (IsS64.ge HI1.out) | refine below_set ?_ GE108.out) | exact HB.out)⟩⟩
      case rest =>
        clear HC11
        try clear c1
        try clear p2
        try clear c3
        try clear c4
        try clear c4b0
        try clear c4b1
        try clear c9
        try clear c12
        try clear c14
        try clear p2
        obtain ⟨kq, x37_10, rfl, HA, HJ10, HO_9, HO_10, BK108, HI1, HK, HB⟩ := hcut
        cases kq with
        | zero => exact absurd HA.out (by simp [partitaref10_walk.j1])
        | succ kj10 =>
          have H := HA.out
          clear HA
          simp only [partitaref10_walk.j1] at H
          by_cases c15 : x37_10 = true
          rotate_left
          · replace c15 := Bool.eq_false_iff.mpr c15
            subst c15
            have H1 : (some (x9_1, x10_1, 0, x2000_1, x2001_1, x2002_1, x2003_1, x2004_1, x2005_1, x2006_1, x2007_1)) = some (r1, r2, r3, r4, r5, r6, r7, r8, r9, r10, r11) := by rw [if_neg (show ¬ (false = true) by decide)] at H; exact H
            clear H
            have H := H1
            clear H1
            simp only [Option.some.injEq, Prod.mk.injEq] at H
            obtain ⟨rfl, rfl, rfl, rfl, rfl, rfl, rfl, rfl, rfl, rfl, rfl⟩ := H
            go_wp2
            go_ret3
            exact ⟨_, _, qq2, by (with_reducible repeat (first | apply Kd.R_alloc | apply Kd.R_drewN | apply Kd.R_drew)); exact HO_9.out, by (with_reducible repeat (first | apply Kd.R_alloc | apply Kd.R_drewN | apply Kd.R_drew)); exact HO_10.out, by repeat (first | (with_reducible first | exact HB.out | apply below_alloc | apply pw_below_drewN | apply below_drew1 | refine below_set ?_ (IsS64.ge HI1.out) | refine below_set ?_ GE108.out) | exact HB.out)⟩
          subst c15
          have H1 : (if 0 ≤ x2000_1 then (if x2000_1 < (l0.length : Int) then (if (rd_T38 l0 x2000_1).f0 = true then (if x2000_1 = x2002_1 then (if x2003_1 = true then (partitaref10_walk.j2 kj10 l0 x9_1 x10_1 ((((rd_T38 l0 x2000_1).f2).length : Int) == 0) x2000_1 x2001_1 x2002_1 x2003_1 x2004_1 x2005_1 x2006_1 x2007_1 t103 t104 t105 t106 t107 ((rd_T38 l0 x2000_1).f0) ((rd_T38 l0 x2000_1).f1) ((rd_T38 l0 x2000_1).f3) ((rd_T38 l0 x2000_1).f4) ((rd_T38 l0 x2000_1).f5) ((rd_T38 l0 x2000_1).f6) ((rd_T38 l0 x2000_1).f7)) else (partitaref10_walk.j2 kj10 l0 x9_1 x10_1 false x2000_1 x2001_1 x2002_1 x2003_1 x2004_1 x2005_1 x2006_1 x2007_1 t103 t104 t105 t106 t107 ((rd_T38 l0 x2000_1).f0) ((rd_T38 l0 x2000_1).f1) ((rd_T38 l0 x2000_1).f3) ((rd_T38 l0 x2000_1).f4) ((rd_T38 l0 x2000_1).f5) ((rd_T38 l0 x2000_1).f6) ((rd_T38 l0 x2000_1).f7))) else (partitaref10_walk.j2 kj10 l0 x9_1 x10_1 true x2000_1 x2001_1 x2002_1 x2003_1 x2004_1 x2005_1 x2006_1 x2007_1 t103 t104 t105 t106 t107 ((rd_T38 l0 x2000_1).f0) ((rd_T38 l0 x2000_1).f1) ((rd_T38 l0 x2000_1).f3) ((rd_T38 l0 x2000_1).f4) ((rd_T38 l0 x2000_1).f5) ((rd_T38 l0 x2000_1).f6) ((rd_T38 l0 x2000_1).f7))) else (if x2003_1 = true then (partitaref10_walk.j2 kj10 l0 x9_1 x10_1 ((((rd_T38 l0 x2000_1).f2).length : Int) == 0) x2000_1 x2001_1 x2002_1 x2003_1 x2004_1 x2005_1 x2006_1 x2007_1 t103 t104 t105 t106 t107 ((rd_T38 l0 x2000_1).f0) ((rd_T38 l0 x2000_1).f1) ((rd_T38 l0 x2000_1).f3) ((rd_T38 l0 x2000_1).f4) ((rd_T38 l0 x2000_1).f5) ((rd_T38 l0 x2000_1).f6) ((rd_T38 l0 x2000_1).f7)) else (partitaref10_walk.j2 kj10 l0 x9_1 x10_1 false x2000_1 x2001_1 x2002_1 x2003_1 x2004_1 x2005_1 x2006_1 x2007_1 t103 t104 t105 t106 t107 ((rd_T38 l0 x2000_1).f0) ((rd_T38 l0 x2000_1).f1) ((rd_T38 l0 x2000_1).f3) ((rd_T38 l0 x2000_1).f4) ((rd_T38 l0 x2000_1).f5) ((rd_T38 l0 x2000_1).f6) ((rd_T38 l0 x2000_1).f7)))) else (none)) else (none)) = some (r1, r2, r3, r4, r5, r6, r7, r8, r9, r10, r11) := by rw [if_pos rfl] at H; exact H
          clear H
          have H := H1
          clear H1
          by_cases c16 : 0 ≤ x2000_1
          rotate_left
          · rw [if_neg c16] at H
            exact absurd H (by simp)
          rw [if_pos c16] at H
          have c16b0 : decide (0 ≤ x2000_1) = true := decide_eq_true c16
          clear c16
          by_cases c17 : x2000_1 < (l0.length : Int)
          rotate_left
          · rw [if_neg c17] at H
            exact absurd H (by simp)
          rw [if_pos c17] at H
          have c17b0 : decide (x2000_1 < (l0.length : Int)) = true := decide_eq_true c17
          clear c17
          have HC18 := Aside0.mk H
          clear H
          have hz19 := cells8 HI1.out.1
          have p109 : 0 ≤ (x2000_1 : Int) := of_decide_eq_true qq0
          have q109 : x2000_1 < (l0.length : Int) := of_decide_eq_true qq0
          obtain ⟨ad109, A109_2, c109_2, e109, hx109_0, hx109_1, hx109_2, hx109_3, hx109_4, hx109_5, hx109_6, hx109_7, hl109_2, hi109_2⟩ := at_T38 (Kd.C_foot_now HR0.out HK.out) x2000_1 p109 q109
          cases e109
          have HR109_2 := Aside0.mk hi109_2
          have HC109_2 := Aside0.mk hl109_2
          clear hi109_2 hl109_2
          replace p109 := eq_true p109
          replace q109 := eq_true q109
          go_upto_region 10 with (first | ((with_reducible refine gate_dst (N := 11) rfl ?_); (try (refine gate_guard (by rfl) ?_; dsimp only)); refine box_event ?hg (N := 11) ?hd (cs := #[.bool false, .int .i64 0, .slice none 0 0, .bool false, .bool false, .bool false, .bool false, .int .i64 0]) (t := 38) ?hr ?_; (case hd => rfl); (case hg => rfl); (case hr => exact qqj); intro gb110 hg w20 hbox hb; replace HO_9 := Aside0.mk (Kd.R_below (qR HO_9.out) hb); replace HO_10 := Aside0.mk (Kd.R_below (qR HO_10.out) hb); replace HR109_2 := Aside0.mk (Kd.C_below (by repeat (first | (with_reducible exact HR109_2.out) | (with_reducible refine Kd.C_alloc ?_ _) | (with_reducible refine Kd.C_drewN ?_ _) | (with_reducible refine Kd.C_drew ?_) | exact HR109_2.out)) hb); replace HB := Aside0.mk (below_step (by repeat (first | (with_reducible first | exact HB.out | apply below_alloc | apply pw_below_drewN | apply below_drew1 | refine below_set ?_ (IsS64.ge HI1.out) | refine below_set ?_ GE108.out) | exact HB.out)) hb); have BK110 := Aside0.mk (hbox); have GW110 := Aside0.mk ((by rw [hg]; exact (keep_size (w := w) (g := g) (row := none) (by repeat (first | (with_reducible first | exact HK.out | apply KeepBut.set_ | apply keep_drewN | apply keep_drew | apply keep_alloc | refine keep_far ?_ GW108.out _) | exact HK.out))) : w.heap.size ≤ gb110)); have GE110 := Aside0.mk ((Nat.le_trans HW0.out (by rw [hg]; exact (keep_size (w := w) (g := g) (row := none) (by repeat (first | (with_reducible first | exact HK.out | apply KeepBut.set_ | apply keep_drewN | apply keep_drew | apply keep_alloc | refine keep_far ?_ GW108.out _) | exact HK.out))) : w.heap.size ≤ gb110) : w.heap.size ≤ gb110)); replace HK := Aside0.mk (KeepBut.trans (by repeat (first | (with_reducible first | exact HK.out | apply KeepBut.set_ | apply keep_drewN | apply keep_drew | apply keep_alloc | refine keep_far ?_ GW108.out _) | exact HK.out)) (KeepBut.of_below hb g none) (.inl rfl)); have NB108_110 := Aside0.mk ((by rw [hg]; exact Nat.ne_of_lt (blk_lt (bq BK108.out)) : gb108 ≠ gb110)); have NB110_108 := Aside0.mk ((by rw [hg]; exact Nat.ne_of_gt (blk_lt (bq BK108.out)) : gb110 ≠ gb108)); replace BK108 := Aside0.mk (blk_below (bq BK108.out) hb); have NB1_110 := Aside0.mk ((by rw [hg]; exact Nat.ne_of_lt (IsS64.lt (show IsS64 w _ g x2000_1 x2001_1 x2002_1 x2003_1 x2004_1 x2005_1 x2006_1 x2007_1 from by repeat (first | (with_reducible first | exact HI1.out | apply IsS64.alloc | apply IsS64.drewN | apply IsS64.drew | apply IsS64.set_0 | apply IsS64.set_1 | apply IsS64.set_2 | apply IsS64.set_3 | apply IsS64.set_4 | apply IsS64.set_5 | apply IsS64.set_6 | apply IsS64.set_7 | refine IsS64.far ?_ NB1_108.out _) | exact HI1.out))) : g ≠ gb110)); have NB110_1 := Aside0.mk ((by rw [hg]; exact Nat.ne_of_gt (IsS64.lt (show IsS64 w _ g x2000_1 x2001_1 x2002_1 x2003_1 x2004_1 x2005_1 x2006_1 x2007_1 from by repeat (first | (with_reducible first | exact HI1.out | apply IsS64.alloc | apply IsS64.drewN | apply IsS64.drew | apply IsS64.set_0 | apply IsS64.set_1 | apply IsS64.set_2 | apply IsS64.set_3 | apply IsS64.set_4 | apply IsS64.set_5 | apply IsS64.set_6 | apply IsS64.set_7 | refine IsS64.far ?_ NB1_108.out _) | exact HI1.out))) : gb110 ≠ g)); replace HI1 := Aside0.mk (IsS64.below (by repeat (first | (with_reducible first | exact HI1.out | apply IsS64.alloc | apply IsS64.drewN | apply IsS64.drew | apply IsS64.set_0 | apply IsS64.set_1 | apply IsS64.set_2 | apply IsS64.set_3 | apply IsS64.set_4 | apply IsS64.set_5 | apply IsS64.set_6 | apply IsS64.set_7 | refine IsS64.far ?_ NB1_108.out _) | exact HI1.out)) hb); clear hb hbox hg; have hnb21 := NB110_108.out; have hnc21 := NB108_110.out; have hnb22 := NB110_1.out; have hnc22 := NB1_110.out; have hz23 := cells8 BK110.out))
          (try simp only [Act.put, List.setIfInBounds_toArray, List.set_cons_zero, List.set_cons_succ])
          go_cut [69] (fun v69 wc => ∃ (kq : Nat) (x69_17 : Bool), v69 = .bool x69_17 ∧ Aside0 (partitaref10_walk.j2 kq l0 x9_1 x10_1 x69_17 x2000_1 x2001_1 x2002_1 x2003_1 x2004_1 x2005_1 x2006_1 x2007_1 t103 t104 t105 t106 t107 ((rd_T38 l0 x2000_1).f0) ((rd_T38 l0 x2000_1).f1) ((rd_T38 l0 x2000_1).f3) ((rd_T38 l0 x2000_1).f4) ((rd_T38 l0 x2000_1).f5) ((rd_T38 l0 x2000_1).f6) ((rd_T38 l0 x2000_1).f7) = some (r1, r2, r3, r4, r5, r6, r7, r8, r9, r10, r11)) ∧ Aside0 (kq ≤ kj10) ∧ Aside0 (Kd.R (Kd.int .i64) 3 wc w.heap.size (fun k_ => some k_ ≠ (u10 : Value).ownBlock) u9 x9_1) ∧ Aside0 (Kd.R (Kd.int .i64) 3 wc w.heap.size (fun k_ => some k_ ≠ (u9 : Value).ownBlock) u10 x10_1) ∧ Aside0 (wc.heap[gb108]? = some (.cells #[.int .i64 t103, .int .i64 t104, .int .i64 t105, .bool t106, .bool t107] 55 (0, 0))) ∧ Aside0 (wc.heap[gb110]? = some (.cells #[.bool ((rd_T38 l0 x2000_1).f0), .int .i64 ((rd_T38 l0 x2000_1).f1), .slice A109_2 ((rd_T38 l0 x2000_1).f2).length c109_2, .bool ((rd_T38 l0 x2000_1).f3), .bool ((rd_T38 l0 x2000_1).f4), .bool ((rd_T38 l0 x2000_1).f5), .bool ((rd_T38 l0 x2000_1).f6), .int .i64 ((rd_T38 l0 x2000_1).f7)] 38 (0, 0))) ∧ Aside0 (IsS64 w wc g x2000_1 x2001_1 x2002_1 x2003_1 x2004_1 x2005_1 x2006_1 x2007_1) ∧ Aside0 (KeepBut w wc g none) ∧ Aside0 (Below w.heap.size w wc))
          case first =>
            have H := HC18.out
            clear HC18
            obtain ⟨bq24, hbq24⟩ : ∃ b_ : Bool, b_ = ((rd_T38 l0 x2000_1).f0) := ⟨_, rfl⟩
            replace H : (if bq24 = true then (if x2000_1 = x2002_1 then (if x2003_1 = true then (partitaref10_walk.j2 kj10 l0 x9_1 x10_1 ((((rd_T38 l0 x2000_1).f2).length : Int) == 0) x2000_1 x2001_1 x2002_1 x2003_1 x2004_1 x2005_1 x2006_1 x2007_1 t103 t104 t105 t106 t107 bq24 ((rd_T38 l0 x2000_1).f1) ((rd_T38 l0 x2000_1).f3) ((rd_T38 l0 x2000_1).f4) ((rd_T38 l0 x2000_1).f5) ((rd_T38 l0 x2000_1).f6) ((rd_T38 l0 x2000_1).f7)) else (partitaref10_walk.j2 kj10 l0 x9_1 x10_1 false x2000_1 x2001_1 x2002_1 x2003_1 x2004_1 x2005_1 x2006_1 x2007_1 t103 t104 t105 t106 t107 bq24 ((rd_T38 l0 x2000_1).f1) ((rd_T38 l0 x2000_1).f3) ((rd_T38 l0 x2000_1).f4) ((rd_T38 l0 x2000_1).f5) ((rd_T38 l0 x2000_1).f6) ((rd_T38 l0 x2000_1).f7))) else (partitaref10_walk.j2 kj10 l0 x9_1 x10_1 true x2000_1 x2001_1 x2002_1 x2003_1 x2004_1 x2005_1 x2006_1 x2007_1 t103 t104 t105 t106 t107 bq24 ((rd_T38 l0 x2000_1).f1) ((rd_T38 l0 x2000_1).f3) ((rd_T38 l0 x2000_1).f4) ((rd_T38 l0 x2000_1).f5) ((rd_T38 l0 x2000_1).f6) ((rd_T38 l0 x2000_1).f7))) else (if x2003_1 = true then (partitaref10_walk.j2 kj10 l0 x9_1 x10_1 ((((rd_T38 l0 x2000_1).f2).length : Int) == 0) x2000_1 x2001_1 x2002_1 x2003_1 x2004_1 x2005_1 x2006_1 x2007_1 t103 t104 t105 t106 t107 bq24 ((rd_T38 l0 x2000_1).f1) ((rd_T38 l0 x2000_1).f3) ((rd_T38 l0 x2000_1).f4) ((rd_T38 l0 x2000_1).f5) ((rd_T38 l0 x2000_1).f6) ((rd_T38 l0 x2000_1).f7)) else (partitaref10_walk.j2 kj10 l0 x9_1 x10_1 false x2000_1 x2001_1 x2002_1 x2003_1 x2004_1 x2005_1 x2006_1 x2007_1 t103 t104 t105 t106 t107 bq24 ((rd_T38 l0 x2000_1).f1) ((rd_T38 l0 x2000_1).f3) ((rd_T38 l0 x2000_1).f4) ((rd_T38 l0 x2000_1).f5) ((rd_T38 l0 x2000_1).f6) ((rd_T38 l0 x2000_1).f7)))) = some (r1, r2, r3, r4, r5, r6, r7, r8, r9, r10, r11) := by rw [← hbq24] at H; exact H
            have Nbq24 := Aside0.mk hbq24
            clear hbq24
            (try rw [← Nbq24.out] at A3)
            (try rw [← Nbq24.out] at A5)
            (try rw [← Nbq24.out])
            by_cases c25 : bq24 = true
            rotate_left
            · replace c25 := Bool.eq_false_iff.mpr c25
              subst c25
              have H1 : (if x2003_1 = true then (partitaref10_walk.j2 kj10 l0 x9_1 x10_1 ((((rd_T38 l0 x2000_1).f2).length : Int) == 0) x2000_1 x2001_1 x2002_1 x2003_1 x2004_1 x2005_1 x2006_1 x2007_1 t103 t104 t105 t106 t107 false ((rd_T38 l0 x2000_1).f1) ((rd_T38 l0 x2000_1).f3) ((rd_T38 l0 x2000_1).f4) ((rd_T38 l0 x2000_1).f5) ((rd_T38 l0 x2000_1).f6) ((rd_T38 l0 x2000_1).f7)) else (partitaref10_walk.j2 kj10 l0 x9_1 x10_1 false x2000_1 x2001_1 x2002_1 x2003_1 x2004_1 x2005_1 x2006_1 x2007_1 t103 t104 t105 t106 t107 false ((rd_T38 l0 x2000_1).f1) ((rd_T38 l0 x2000_1).f3) ((rd_T38 l0 x2000_1).f4) ((rd_T38 l0 x2000_1).f5) ((rd_T38 l0 x2000_1).f6) ((rd_T38 l0 x2000_1).f7))) = some (r1, r2, r3, r4, r5, r6, r7, r8, r9, r10, r11) := by rw [if_neg (show ¬ (false = true) by decide)] at H; exact H
              clear H
              have H := H1
              clear H1
              by_cases c34 : x2003_1 = true
              rotate_left
              · replace c34 := Bool.eq_false_iff.mpr c34
                subst c34
                have H1 : (partitaref10_walk.j2 kj10 l0 x9_1 x10_1 false x2000_1 x2001_1 x2002_1 false x2004_1 x2005_1 x2006_1 x2007_1 t103 t104 t105 t106 t107 false ((rd_T38 l0 x2000_1).f1) ((rd_T38 l0 x2000_1).f3) ((rd_T38 l0 x2000_1).f4) ((rd_T38 l0 x2000_1).f5) ((rd_T38 l0 x2000_1).f6) ((rd_T38 l0 x2000_1).f7)) = some (r1, r2, r3, r4, r5, r6, r7, r8, r9, r10, r11) := by rw [if_neg (show ¬ (false = true) by decide)] at H; exact H
                clear H
                have H := H1
                clear H1
                have H' := Aside0.mk H
                clear H
                try go_wp2
                have n0_ : Aside0 (Kd.R (Kd.int .i64) 3 ((((((((w20.setCell ⟨gb110, 0, none⟩ (.bool (false))).setCell ⟨gb110, 1, none⟩ (.int .i64 ((rd_T38 l0 x2000_1).f1))).setCell ⟨gb110, 2, none⟩ (.slice A109_2 ((rd_T38 l0 x2000_1).f2).length c109_2)).setCell ⟨gb110, 3, none⟩ (.bool ((rd_T38 l0 x2000_1).f3))).setCell ⟨gb110, 4, none⟩ (.bool ((rd_T38 l0 x2000_1).f4))).setCell ⟨gb110, 5, none⟩ (.bool ((rd_T38 l0 x2000_1).f5))).setCell ⟨gb110, 6, none⟩ (.bool ((rd_T38 l0 x2000_1).f6))).setCell ⟨gb110, 7, none⟩ (.int .i64 ((rd_T38 l0 x2000_1).f7))) w.heap.size (fun k_ => some k_ ≠ (u10 : Value).ownBlock) u9 x9_1) := ⟨qqi⟩
                have n1_ : Aside0 (Kd.R (Kd.int .i64) 3 ((((((((w20.setCell ⟨gb110, 0, none⟩ (.bool (false))).setCell ⟨gb110, 1, none⟩ (.int .i64 ((rd_T38 l0 x2000_1).f1))).setCell ⟨gb110, 2, none⟩ (.slice A109_2 ((rd_T38 l0 x2000_1).f2).length c109_2)).setCell ⟨gb110, 3, none⟩ (.bool ((rd_T38 l0 x2000_1).f3))).setCell ⟨gb110, 4, none⟩ (.bool ((rd_T38 l0 x2000_1).f4))).setCell ⟨gb110, 5, none⟩ (.bool ((rd_T38 l0 x2000_1).f5))).setCell ⟨gb110, 6, none⟩ (.bool ((rd_T38 l0 x2000_1).f6))).setCell ⟨gb110, 7, none⟩ (.int .i64 ((rd_T38 l0 x2000_1).f7))) w.heap.size (fun k_ => some k_ ≠ (u9 : Value).ownBlock) u10 x10_1) := ⟨qqh⟩
                have n2_ : Aside0 (((((((((w20.setCell ⟨gb110, 0, none⟩ (.bool (false))).setCell ⟨gb110, 1, none⟩ (.int .i64 ((rd_T38 l0 x2000_1).f1))).setCell ⟨gb110, 2, none⟩ (.slice A109_2 ((rd_T38 l0 x2000_1).f2).length c109_2)).setCell ⟨gb110, 3, none⟩ (.bool ((rd_T38 l0 x2000_1).f3))).setCell ⟨gb110, 4, none⟩ (.bool ((rd_T38 l0 x2000_1).f4))).setCell ⟨gb110, 5, none⟩ (.bool ((rd_T38 l0 x2000_1).f5))).setCell ⟨gb110, 6, none⟩ (.bool ((rd_T38 l0 x2000_1).f6))).setCell ⟨gb110, 7, none⟩ (.int .i64 ((rd_T38 l0 x2000_1).f7))).heap[gb108]? = some (.cells #[.int .i64 t103, .int .i64 t104, .int .i64 t105, .bool t106, .bool t107] 55 (0, 0))) := ⟨by (with_reducible repeat (first | refine blk_drewN ?_ _ | refine blk_drew ?_ | refine blk_alloc ?_ _)); refine blk_far ?_ NB108_110.out _; (with_reducible repeat (first | refine blk_drewN ?_ _ | refine blk_drew ?_ | refine blk_alloc ?_ _)); refine blk_far ?_ NB108_110.out _; (with_reducible repeat (first | refine blk_drewN ?_ _ | refine blk_drew ?_ | refine blk_alloc ?_ _)); refine blk_far ?_ NB108_110.out _; (with_reducible repeat (first | refine blk_drewN ?_ _ | refine blk_drew ?_ | refine blk_alloc ?_ _)); refine blk_far ?_ NB108_110.out _; (with_reducible repeat (first | refine blk_drewN ?_ _ | refine blk_drew ?_ | refine blk_alloc ?_ _)); refine blk_far ?_ NB108_110.out _; (with_reducible repeat (first | refine blk_drewN ?_ _ | refine blk_drew ?_ | refine blk_alloc ?_ _)); refine blk_far ?_ NB108_110.out _; (with_reducible repeat (first | refine blk_drewN ?_ _ | refine blk_drew ?_ | refine blk_alloc ?_ _)); refine blk_far ?_ NB108_110.out _; (with_reducible repeat (first | refine blk_drewN ?_ _ | refine blk_drew ?_ | refine blk_alloc ?_ _)); refine blk_far ?_ NB108_110.out _; (with_reducible repeat (first | refine blk_drewN ?_ _ | refine blk_drew ?_ | refine blk_alloc ?_ _)); exact BK108.out⟩
                have n3_ : Aside0 (((((((((w20.setCell ⟨gb110, 0, none⟩ (.bool (false))).setCell ⟨gb110, 1, none⟩ (.int .i64 ((rd_T38 l0 x2000_1).f1))).setCell ⟨gb110, 2, none⟩ (.slice A109_2 ((rd_T38 l0 x2000_1).f2).length c109_2)).setCell ⟨gb110, 3, none⟩ (.bool ((rd_T38 l0 x2000_1).f3))).setCell ⟨gb110, 4, none⟩ (.bool ((rd_T38 l0 x2000_1).f4))).setCell ⟨gb110, 5, none⟩ (.bool ((rd_T38 l0 x2000_1).f5))).setCell ⟨gb110, 6, none⟩ (.bool ((rd_T38 l0 x2000_1).f6))).setCell ⟨gb110, 7, none⟩ (.int .i64 ((rd_T38 l0 x2000_1).f7))).heap[gb110]? = some (.cells #[.bool false, .int .i64 ((rd_T38 l0 x2000_1).f1), .slice A109_2 ((rd_T38 l0 x2000_1).f2).length c109_2, .bool ((rd_T38 l0 x2000_1).f3), .bool ((rd_T38 l0 x2000_1).f4), .bool ((rd_T38 l0 x2000_1).f5), .bool ((rd_T38 l0 x2000_1).f6), .int .i64 ((rd_T38 l0 x2000_1).f7)] 38 (0, 0))) := ⟨by (with_reducible repeat (first | refine blk_drewN ?_ _ | refine blk_drew ?_ | refine blk_alloc ?_ _)); refine blk_put (cs := #[.bool (false), .int .i64 ((rd_T38 l0 x2000_1).f1), .slice A109_2 ((rd_T38 l0 x2000_1).f2).length c109_2, .bool ((rd_T38 l0 x2000_1).f3), .bool ((rd_T38 l0 x2000_1).f4), .bool ((rd_T38 l0 x2000_1).f5), .bool ((rd_T38 l0 x2000_1).f6), .int .i64 0]) ?_ 7 _ rfl; (with_reducible repeat (first | refine blk_drewN ?_ _ | refine blk_drew ?_ | refine blk_alloc ?_ _)); refine blk_put (cs := #[.bool (false), .int .i64 ((rd_T38 l0 x2000_1).f1), .slice A109_2 ((rd_T38 l0 x2000_1).f2).length c109_2, .bool ((rd_T38 l0 x2000_1).f3), .bool ((rd_T38 l0 x2000_1).f4), .bool ((rd_T38 l0 x2000_1).f5), .bool false, .int .i64 0]) ?_ 6 _ rfl; (with_reducible repeat (first | refine blk_drewN ?_ _ | refine blk_drew ?_ | refine blk_alloc ?_ _)); refine blk_put (cs := #[.bool (false), .int .i64 ((rd_T38 l0 x2000_1).f1), .slice A109_2 ((rd_T38 l0 x2000_1).f2).length c109_2, .bool ((rd_T38 l0 x2000_1).f3), .bool ((rd_T38 l0 x2000_1).f4), .bool false, .bool false, .int .i64 0]) ?_ 5 _ rfl; (with_reducible repeat (first | refine blk_drewN ?_ _ | refine blk_drew ?_ | refine blk_alloc ?_ _)); refine blk_put (cs := #[.bool (false), .int .i64 ((rd_T38 l0 x2000_1).f1), .slice A109_2 ((rd_T38 l0 x2000_1).f2).length c109_2, .bool ((rd_T38 l0 x2000_1).f3), .bool false, .bool false, .bool false, .int .i64 0]) ?_ 4 _ rfl; (with_reducible repeat (first | refine blk_drewN ?_ _ | refine blk_drew ?_ | refine blk_alloc ?_ _)); refine blk_put (cs := #[.bool (false), .int .i64 ((rd_T38 l0 x2000_1).f1), .slice A109_2 ((rd_T38 l0 x2000_1).f2).length c109_2, .bool false, .bool false, .bool false, .bool false, .int .i64 0]) ?_ 3 _ rfl; (with_reducible repeat (first | refine blk_drewN ?_ _ | refine blk_drew ?_ | refine blk_alloc ?_ _)); refine blk_put (cs := #[.bool (false), .int .i64 ((rd_T38 l0 x2000_1).f1), .slice none 0 0, .bool false, .bool false, .bool false, .bool false, .int .i64 0]) ?_ 2 _ rfl; (with_reducible repeat (first | refine blk_drewN ?_ _ | refine blk_drew ?_ | refine blk_alloc ?_ _)); refine blk_put (cs := #[.bool (false), .int .i64 0, .slice none 0 0, .bool false, .bool false, .bool false, .bool false, .int .i64 0]) ?_ 1 _ rfl; (with_reducible repeat (first | refine blk_drewN ?_ _ | refine blk_drew ?_ | refine blk_alloc ?_ _)); refine blk_put (cs := #[.bool false, .int .i64 0, .slice none 0 0, .bool false, .bool false, .bool false, .bool false, .int .i64 0]) ?_ 0 _ rfl; (with_reducible repeat (first | refine blk_drewN ?_ _ | refine blk_drew ?_ | refine blk_alloc ?_ _)); exact BK110.out⟩
                have n4_ : Aside0 (IsS64 w ((((((((w20.setCell ⟨gb110, 0, none⟩ (.bool (false))).setCell ⟨gb110, 1, none⟩ (.int .i64 ((rd_T38 l0 x2000_1).f1))).setCell ⟨gb110, 2, none⟩ (.slice A109_2 ((rd_T38 l0 x2000_1).f2).length c109_2)).setCell ⟨gb110, 3, none⟩ (.bool ((rd_T38 l0 x2000_1).f3))).setCell ⟨gb110, 4, none⟩ (.bool ((rd_T38 l0 x2000_1).f4))).setCell ⟨gb110, 5, none⟩ (.bool ((rd_T38 l0 x2000_1).f5))).setCell ⟨gb110, 6, none⟩ (.bool ((rd_T38 l0 x2000_1).f6))).setCell ⟨gb110, 7, none⟩ (.int .i64 ((rd_T38 l0 x2000_1).f7))) g x2000_1 x2001_1 x2002_1 false x2004_1 x2005_1 x2006_1 x2007_1) := ⟨by repeat (first | (with_reducible first | exact HI1.out | apply IsS64.alloc | apply IsS64.drewN | apply IsS64.drew | apply IsS64.set_0 | apply IsS64.set_1 | apply IsS64.set_2 | apply IsS64.set_3 | apply IsS64.set_4 | apply IsS64.set_5 | apply IsS64.set_6 | apply IsS64.set_7 | refine IsS64.far ?_ NB1_108.out _ | refine IsS64.far ?_ NB1_110.out _) | exact HI1.out)⟩
                have n5_ : Aside0 (KeepBut w ((((((((w20.setCell ⟨gb110, 0, none⟩ (.bool (false))).setCell ⟨gb110, 1, none⟩ (.int .i64 ((rd_T38 l0 x2000_1).f1))).setCell ⟨gb110, 2, none⟩ (.slice A109_2 ((rd_T38 l0 x2000_1).f2).length c109_2)).setCell ⟨gb110, 3, none⟩ (.bool ((rd_T38 l0 x2000_1).f3))).setCell ⟨gb110, 4, none⟩ (.bool ((rd_T38 l0 x2000_1).f4))).setCell ⟨gb110, 5, none⟩ (.bool ((rd_T38 l0 x2000_1).f5))).setCell ⟨gb110, 6, none⟩ (.bool ((rd_T38 l0 x2000_1).f6))).setCell ⟨gb110, 7, none⟩ (.int .i64 ((rd_T38 l0 x2000_1).f7))) g none) := ⟨by repeat (first | (with_reducible first | exact HK.out | apply KeepBut.set_ | apply keep_drewN | apply keep_drew | apply keep_alloc | refine keep_far ?_ GW108.out _ | refine keep_far ?_ GW110.out _) | exact HK.out)⟩
                have n6_ : Aside0 (Below w.heap.size w ((((((((w20.setCell ⟨gb110, 0, none⟩ (.bool (false))).setCell ⟨gb110, 1, none⟩ (.int .i64 ((rd_T38 l0 x2000_1).f1))).setCell ⟨gb110, 2, none⟩ (.slice A109_2 ((rd_T38 l0 x2000_1).f2).length c109_2)).setCell ⟨gb110, 3, none⟩ (.bool ((rd_T38 l0 x2000_1).f3))).setCell ⟨gb110, 4, none⟩ (.bool ((rd_T38 l0 x2000_1).f4))).setCell ⟨gb110, 5, none⟩ (.bool ((rd_T38 l0 x2000_1).f5))).setCell ⟨gb110, 6, none⟩ (.bool ((rd_T38 l0 x2000_1).f6))).setCell ⟨gb110, 7, none⟩ (.int .i64 ((rd_T38 l0 x2000_1).f7)))) := ⟨by repeat (first | (with_reducible first | exact HB.out | apply below_alloc | apply pw_below_drewN | apply below_drew1 | refine below_set ?_ (IsS64.ge HI1.out) | refine below_set ?_ GE108.out | refine below_set ?_ GE110.out) | exact HB.out)⟩
                (try clear HO_9)
                (try clear HO_10)
                (try clear BK108)
                (try clear BK110)
                (try clear HI1)
                (try clear HK)
                (try clear HB)
                generalize ((((((((w20.setCell ⟨gb110, 0, none⟩ (.bool (false))).setCell ⟨gb110, 1, none⟩ (.int .i64 ((rd_T38 l0 x2000_1).f1))).setCell ⟨gb110, 2, none⟩ (.slice A109_2 ((rd_T38 l0 x2000_1).f2).length c109_2)).setCell ⟨gb110, 3, none⟩ (.bool ((rd_T38 l0 x2000_1).f3))).setCell ⟨gb110, 4, none⟩ (.bool ((rd_T38 l0 x2000_1).f4))).setCell ⟨gb110, 5, none⟩ (.bool ((rd_T38 l0 x2000_1).f5))).setCell ⟨gb110, 6, none⟩ (.bool ((rd_T38 l0 x2000_1).f6))).setCell ⟨gb110, 7, none⟩ (.int .i64 ((rd_T38 l0 x2000_1).f7))) = w37 at n0_ n1_ n2_ n3_ n4_ n5_ n6_ ⊢
                have HO_9 := n0_
                have HO_10 := n1_
                have BK108 := n2_
                have BK110 := n3_
                have HI1 := n4_
                have HK := n5_
                have HB := n6_
                clear n0_ n1_ n2_ n3_ n4_ n5_ n6_
                replace HO_9 := Aside0.mk (Kd.R_drew HO_9.out)
                replace HO_10 := Aside0.mk (Kd.R_drew HO_10.out)
                replace BK108 := Aside0.mk (blk_drew BK108.out)
                replace BK110 := Aside0.mk (blk_drew BK110.out)
                replace HI1 := Aside0.mk (IsS64.drew HI1.out)
                replace HK := Aside0.mk (keep_drew HK.out)
                replace HB := Aside0.mk (below_drew1 HB.out)
                refine start_ (n := 25) (S := fun w' => w'.cell? ⟨gb110, 0, none⟩ = some (.bool false) ∧ w'.cell? ⟨gb110, 1, none⟩ = some (.int .i64 ((rd_T38 l0 x2000_1).f1)) ∧ w'.cell? ⟨gb110, 2, none⟩ = some (.slice A109_2 ((rd_T38 l0 x2000_1).f2).length c109_2) ∧ w'.cell? ⟨gb110, 3, none⟩ = some (.bool ((rd_T38 l0 x2000_1).f3)) ∧ w'.cell? ⟨gb110, 4, none⟩ = some (.bool ((rd_T38 l0 x2000_1).f4)) ∧ w'.cell? ⟨gb110, 5, none⟩ = some (.bool ((rd_T38 l0 x2000_1).f5)) ∧ w'.cell? ⟨gb110, 6, none⟩ = some (.bool ((rd_T38 l0 x2000_1).f6)) ∧ w'.cell? ⟨gb110, 7, none⟩ = some (.int .i64 ((rd_T38 l0 x2000_1).f7)) ∧ w'.cell? ⟨g, 0, none⟩ = some (.int .i64 x2000_1) ∧ w'.cell? ⟨g, 1, none⟩ = some (.int .i64 x2001_1) ∧ w'.cell? ⟨g, 2, none⟩ = some (.int .i64 x2002_1) ∧ w'.cell? ⟨g, 3, none⟩ = some (.bool false) ∧ w'.cell? ⟨g, 4, none⟩ = some (.bool x2004_1) ∧ w'.cell? ⟨g, 5, none⟩ = some (.bool x2005_1) ∧ w'.cell? ⟨g, 6, none⟩ = some (.bool x2006_1) ∧ w'.cell? ⟨g, 7, none⟩ = some (.bool x2007_1)) (ds := []) #[false, false, false, false, false, false, false, false, false, false, false, false, false, false, false, false, false, false, false, false, false, false, false, false, false] (by kernel_rfl) rfl rfl ⟨(blk_cell BK110.out 0).trans rfl, (blk_cell BK110.out 1).trans rfl, (blk_cell BK110.out 2).trans rfl, (blk_cell BK110.out 3).trans rfl, (blk_cell BK110.out 4).trans rfl, (blk_cell BK110.out 5).trans rfl, (blk_cell BK110.out 6).trans rfl, (blk_cell BK110.out 7).trans rfl, (cellS64_0 HI1.out.1), (cellS64_1 HI1.out.1), (cellS64_2 HI1.out.1), (cellS64_3 HI1.out.1), (cellS64_4 HI1.out.1), (cellS64_5 HI1.out.1), (cellS64_6 HI1.out.1), (cellS64_7 HI1.out.1)⟩ (fun hHeld => ?_); refine with_tabW partitaref10_walk.tab10 partitaref10_walk.bits10 (fun HT_ HW_ => ?_)
                generalize w37.drew = w38 at HO_9 HO_10 BK108 BK110 HI1 HK HB hHeld ⊢
                refine pureS 0 (some 45) (bs 1 25) ?_
                refine take_ (i := 1) (N := some 46) (v := ?_) (a' := ?_) (bs 3 25) rfl rfl (take_ofW HT_.out HW_.out (by kernel_rfl)) (fun _ _ _ h => h) (Or.inl ⟨by rfl, ?_⟩) hHeld ?_ ?_
                rotate_left
                · rintro w' ⟨s0, s1, s2, s3, s4, s5, s6, s7, s8, s9, s10, s11, s12, s13, s14, s15⟩
                  go_simp
                  with_reducible rfl
                rotate_left
                · simp only [Act.put, List.setIfInBounds_toArray, List.set_cons_zero, List.set_cons_succ, i64_w, i32_w]
                  rfl
                refine pureS 2 (some 47) (bs 7 25) ?_
                refine pure_ (i := 3) (N := some 48) (v := undef) (a' := ?_) (bs 15 25) rfl rfl (any_of HT_.out (by kernel_rfl)) (fun _ _ _ h => h) (Or.inr ⟨by rfl, rfl⟩) ?_ ?_
                rotate_left
                · simp only [Act.put, List.setIfInBounds_toArray, List.set_cons_zero, List.set_cons_succ, i64_w, i32_w]
                  rfl
                refine pure_ (i := 4) (N := some 49) (v := undef) (a' := ?_) (bs 31 25) rfl rfl (any_of HT_.out (by kernel_rfl)) (fun _ _ _ h => h) (Or.inr ⟨by rfl, rfl⟩) ?_ ?_
                rotate_left
                · simp only [Act.put, List.setIfInBounds_toArray, List.set_cons_zero, List.set_cons_succ, i64_w, i32_w]
                  rfl
                refine pure_ (i := 5) (N := some 50) (v := undef) (a' := ?_) (bs 63 25) rfl rfl (any_of HT_.out (by kernel_rfl)) (fun _ _ _ h => h) (Or.inr ⟨by rfl, rfl⟩) ?_ ?_
                rotate_left
                · simp only [Act.put, List.setIfInBounds_toArray, List.set_cons_zero, List.set_cons_succ, i64_w, i32_w]
                  rfl
                refine pure_ (i := 6) (N := some 51) (v := undef) (a' := ?_) (bs 127 25) rfl rfl (any_of HT_.out (by kernel_rfl)) (fun _ _ _ h => h) (Or.inr ⟨by rfl, rfl⟩) ?_ ?_
                rotate_left
                · simp only [Act.put, List.setIfInBounds_toArray, List.set_cons_zero, List.set_cons_succ, i64_w, i32_w]
                  rfl
                refine pure_ (i := 7) (N := some 52) (v := undef) (a' := ?_) (bs 255 25) rfl rfl (any_of HT_.out (by kernel_rfl)) (fun _ _ _ h => h) (Or.inr ⟨by rfl, rfl⟩) ?_ ?_
                rotate_left
                · simp only [Act.put, List.setIfInBounds_toArray, List.set_cons_zero, List.set_cons_succ, i64_w, i32_w]
                  rfl
                refine pure_ (i := 8) (N := some 53) (v := undef) (a' := ?_) (bs 511 25) rfl rfl (any_of HT_.out (by kernel_rfl)) (fun _ _ _ h => h) (Or.inr ⟨by rfl, rfl⟩) ?_ ?_
                rotate_left
                · simp only [Act.put, List.setIfInBounds_toArray, List.set_cons_zero, List.set_cons_succ, i64_w, i32_w]
                  rfl
                refine pure_ (i := 9) (N := some 54) (v := undef) (a' := ?_) (bs 1023 25) rfl rfl (any_of HT_.out (by kernel_rfl)) (fun _ _ _ h => h) (Or.inr ⟨by rfl, rfl⟩) ?_ ?_
                rotate_left
                · simp only [Act.put, List.setIfInBounds_toArray, List.set_cons_zero, List.set_cons_succ, i64_w, i32_w]
                  rfl
                refine pure_ (i := 10) (N := some 55) (v := undef) (a' := ?_) (bs 2047 25) rfl rfl (any_of HT_.out (by kernel_rfl)) (fun _ _ _ h => h) (Or.inr ⟨by rfl, rfl⟩) ?_ ?_
                rotate_left
                · simp only [Act.put, List.setIfInBounds_toArray, List.set_cons_zero, List.set_cons_succ, i64_w, i32_w]
                  rfl
                refine pure_ (i := 11) (N := some 56) (v := undef) (a' := ?_) (bs 4095 25) rfl rfl (any_of HT_.out (by kernel_rfl)) (fun _ _ _ h => h) (Or.inr ⟨by rfl, rfl⟩) ?_ ?_
                rotate_left
                · simp only [Act.put, List.setIfInBounds_toArray, List.set_cons_zero, List.set_cons_succ, i64_w, i32_w]
                  rfl
                refine pureS 12 (some 57) (bs 8191 25) ?_
                refine pureS 13 (some 58) (bs 16383 25) ?_
                refine pureS 14 (some 59) (bs 32767 25) ?_
                refine pureS 15 (some 60) (bs 65535 25) ?_
                refine pureS 16 (some 61) (bs 131071 25) ?_
                refine take_ (i := 17) (N := some 62) (v := ?_) (a' := ?_) (bs 262143 25) rfl rfl (take_ofW HT_.out HW_.out (by kernel_rfl)) (fun _ _ _ h => h) (Or.inl ⟨by rfl, ?_⟩) hHeld ?_ ?_
                rotate_left
                · rintro w' ⟨s0, s1, s2, s3, s4, s5, s6, s7, s8, s9, s10, s11, s12, s13, s14, s15⟩
                  go_simp
                  with_reducible rfl
                rotate_left
                · simp only [Act.put, List.setIfInBounds_toArray, List.set_cons_zero, List.set_cons_succ, i64_w, i32_w]
                  rfl
                refine pureS 18 (some 63) (bs 524287 25) ?_
                refine pure_ (i := 19) (N := some 64) (v := undef) (a' := ?_) (bs 1048575 25) rfl rfl (any_of HT_.out (by kernel_rfl)) (fun _ _ _ h => h) (Or.inr ⟨by rfl, rfl⟩) ?_ ?_
                rotate_left
                · simp only [Act.put, List.setIfInBounds_toArray, List.set_cons_zero, List.set_cons_succ, i64_w, i32_w]
                  rfl
                refine pure_ (i := 20) (N := some 65) (v := undef) (a' := ?_) (bs 2097151 25) rfl rfl (any_of HT_.out (by kernel_rfl)) (fun _ _ _ h => h) (Or.inr ⟨by rfl, rfl⟩) ?_ ?_
                rotate_left
                · simp only [Act.put, List.setIfInBounds_toArray, List.set_cons_zero, List.set_cons_succ, i64_w, i32_w]
                  rfl
                refine pure_ (i := 21) (N := some 66) (v := undef) (a' := ?_) (bs 4194303 25) rfl rfl (any_of HT_.out (by kernel_rfl)) (fun _ _ _ h => h) (Or.inr ⟨by rfl, rfl⟩) ?_ ?_
                rotate_left
                · simp only [Act.put, List.setIfInBounds_toArray, List.set_cons_zero, List.set_cons_succ, i64_w, i32_w]
                  rfl
                refine pure_ (i := 22) (N := some 67) (v := undef) (a' := ?_) (bs 8388607 25) rfl rfl (any_of HT_.out (by kernel_rfl)) (fun _ _ _ h => h) (Or.inr ⟨by rfl, rfl⟩) ?_ ?_
                rotate_left
                · simp only [Act.put, List.setIfInBounds_toArray, List.set_cons_zero, List.set_cons_succ, i64_w, i32_w]
                  rfl
                refine pureS 23 (some 68) (bs 16777215 25) ?_
                refine pureS 24 (some 69) (bs 33554431 25) ?_
                refine done_ (done_of HT_.out (by kernel_rfl)) ?_
                try go_wp2
                go_meet
                case rel => (try rw [← Nbq24.out]); exact ⟨_, (false), qq3, H', ⟨qqB⟩, ⟨qR HO_9.out⟩, ⟨qR HO_10.out⟩, ⟨bq BK108.out⟩, ⟨bq BK110.out⟩, ⟨by repeat (first | (with_reducible first | exact HI1.out | apply IsS64.alloc | apply IsS64.drewN | apply IsS64.drew | apply IsS64.set_0 | apply IsS64.set_1 | apply IsS64.set_2 | apply IsS64.set_3 | apply IsS64.set_4 | apply IsS64.set_5 | apply IsS64.set_6 | apply IsS64.set_7 | refine IsS64.far ?_ NB1_108.out _ | refine IsS64.far ?_ NB1_110.out _) | exact HI1.out)⟩, ⟨by repeat (first | (with_reducible first | exact HK.out | apply KeepBut.set_ | apply keep_drewN | apply keep_drew | apply keep_alloc | refine keep_far ?_ GW108.out _ | refine keep_far ?_ GW110.out _) | exact HK.out)⟩, ⟨by repeat (first | (with_reducible first | exact HB.out | apply below_alloc | apply pw_below_drewN | apply below_drew1 | refine below_set ?_ (IsS64.ge HI1.out) | refine below_set ?_ GE108.out | refine below_set ?_ GE110.out) | exact HB.out)⟩⟩
              subst c34
              have H1 : (partitaref10_walk.j2 kj10 l0 x9_1 x10_1 ((((rd_T38 l0 x2000_1).f2).length : Int) == 0) x2000_1 x2001_1 x2002_1 true x2004_1 x2005_1 x2006_1 x2007_1 t103 t104 t105 t106 t107 false ((rd_T38 l0 x2000_1).f1) ((rd_T38 l0 x2000_1).f3) ((rd_T38 l0 x2000_1).f4) ((rd_T38 l0 x2000_1).f5) ((rd_T38 l0 x2000_1).f6) ((rd_T38 l0 x2000_1).f7)) = some (r1, r2, r3, r4, r5, r6, r7, r8, r9, r10, r11) := by rw [if_pos rfl] at H; exact H
              clear H
              have H := H1
              clear H1
              have H' := Aside0.mk H
              clear H
              try go_wp2
              have n0_ : Aside0 (Kd.R (Kd.int .i64) 3 ((((((((w20.setCell ⟨gb110, 0, none⟩ (.bool (false))).setCell ⟨gb110, 1, none⟩ (.int .i64 ((rd_T38 l0 x2000_1).f1))).setCell ⟨gb110, 2, none⟩ (.slice A109_2 ((rd_T38 l0 x2000_1).f2).length c109_2)).setCell ⟨gb110, 3, none⟩ (.bool ((rd_T38 l0 x2000_1).f3))).setCell ⟨gb110, 4, none⟩ (.bool ((rd_T38 l0 x2000_1).f4))).setCell ⟨gb110, 5, none⟩ (.bool ((rd_T38 l0 x2000_1).f5))).setCell ⟨gb110, 6, none⟩ (.bool ((rd_T38 l0 x2000_1).f6))).setCell ⟨gb110, 7, none⟩ (.int .i64 ((rd_T38 l0 x2000_1).f7))) w.heap.size (fun k_ => some k_ ≠ (u10 : Value).ownBlock) u9 x9_1) := ⟨qqi⟩
              have n1_ : Aside0 (Kd.R (Kd.int .i64) 3 ((((((((w20.setCell ⟨gb110, 0, none⟩ (.bool (false))).setCell ⟨gb110, 1, none⟩ (.int .i64 ((rd_T38 l0 x2000_1).f1))).setCell ⟨gb110, 2, none⟩ (.slice A109_2 ((rd_T38 l0 x2000_1).f2).length c109_2)).setCell ⟨gb110, 3, none⟩ (.bool ((rd_T38 l0 x2000_1).f3))).setCell ⟨gb110, 4, none⟩ (.bool ((rd_T38 l0 x2000_1).f4))).setCell ⟨gb110, 5, none⟩ (.bool ((rd_T38 l0 x2000_1).f5))).setCell ⟨gb110, 6, none⟩ (.bool ((rd_T38 l0 x2000_1).f6))).setCell ⟨gb110, 7, none⟩ (.int .i64 ((rd_T38 l0 x2000_1).f7))) w.heap.size (fun k_ => some k_ ≠ (u9 : Value).ownBlock) u10 x10_1) := ⟨qqh⟩
              have n2_ : Aside0 (((((((((w20.setCell ⟨gb110, 0, none⟩ (.bool (false))).setCell ⟨gb110, 1, none⟩ (.int .i64 ((rd_T38 l0 x2000_1).f1))).setCell ⟨gb110, 2, none⟩ (.slice A109_2 ((rd_T38 l0 x2000_1).f2).length c109_2)).setCell ⟨gb110, 3, none⟩ (.bool ((rd_T38 l0 x2000_1).f3))).setCell ⟨gb110, 4, none⟩ (.bool ((rd_T38 l0 x2000_1).f4))).setCell ⟨gb110, 5, none⟩ (.bool ((rd_T38 l0 x2000_1).f5))).setCell ⟨gb110, 6, none⟩ (.bool ((rd_T38 l0 x2000_1).f6))).setCell ⟨gb110, 7, none⟩ (.int .i64 ((rd_T38 l0 x2000_1).f7))).heap[gb108]? = some (.cells #[.int .i64 t103, .int .i64 t104, .int .i64 t105, .bool t106, .bool t107] 55 (0, 0))) := ⟨by (with_reducible repeat (first | refine blk_drewN ?_ _ | refine blk_drew ?_ | refine blk_alloc ?_ _)); refine blk_far ?_ NB108_110.out _; (with_reducible repeat (first | refine blk_drewN ?_ _ | refine blk_drew ?_ | refine blk_alloc ?_ _)); refine blk_far ?_ NB108_110.out _; (with_reducible repeat (first | refine blk_drewN ?_ _ | refine blk_drew ?_ | refine blk_alloc ?_ _)); refine blk_far ?_ NB108_110.out _; (with_reducible repeat (first | refine blk_drewN ?_ _ | refine blk_drew ?_ | refine blk_alloc ?_ _)); refine blk_far ?_ NB108_110.out _; (with_reducible repeat (first | refine blk_drewN ?_ _ | refine blk_drew ?_ | refine blk_alloc ?_ _)); refine blk_far ?_ NB108_110.out _; (with_reducible repeat (first | refine blk_drewN ?_ _ | refine blk_drew ?_ | refine blk_alloc ?_ _)); refine blk_far ?_ NB108_110.out _; (with_reducible repeat (first | refine blk_drewN ?_ _ | refine blk_drew ?_ | refine blk_alloc ?_ _)); refine blk_far ?_ NB108_110.out _; (with_reducible repeat (first | refine blk_drewN ?_ _ | refine blk_drew ?_ | refine blk_alloc ?_ _)); refine blk_far ?_ NB108_110.out _; (with_reducible repeat (first | refine blk_drewN ?_ _ | refine blk_drew ?_ | refine blk_alloc ?_ _)); exact BK108.out⟩
              have n3_ : Aside0 (((((((((w20.setCell ⟨gb110, 0, none⟩ (.bool (false))).setCell ⟨gb110, 1, none⟩ (.int .i64 ((rd_T38 l0 x2000_1).f1))).setCell ⟨gb110, 2, none⟩ (.slice A109_2 ((rd_T38 l0 x2000_1).f2).length c109_2)).setCell ⟨gb110, 3, none⟩ (.bool ((rd_T38 l0 x2000_1).f3))).setCell ⟨gb110, 4, none⟩ (.bool ((rd_T38 l0 x2000_1).f4))).setCell ⟨gb110, 5, none⟩ (.bool ((rd_T38 l0 x2000_1).f5))).setCell ⟨gb110, 6, none⟩ (.bool ((rd_T38 l0 x2000_1).f6))).setCell ⟨gb110, 7, none⟩ (.int .i64 ((rd_T38 l0 x2000_1).f7))).heap[gb110]? = some (.cells #[.bool false, .int .i64 ((rd_T38 l0 x2000_1).f1), .slice A109_2 ((rd_T38 l0 x2000_1).f2).length c109_2, .bool ((rd_T38 l0 x2000_1).f3), .bool ((rd_T38 l0 x2000_1).f4), .bool ((rd_T38 l0 x2000_1).f5), .bool ((rd_T38 l0 x2000_1).f6), .int .i64 ((rd_T38 l0 x2000_1).f7)] 38 (0, 0))) := ⟨by (with_reducible repeat (first | refine blk_drewN ?_ _ | refine blk_drew ?_ | refine blk_alloc ?_ _)); refine blk_put (cs := #[.bool (false), .int .i64 ((rd_T38 l0 x2000_1).f1), .slice A109_2 ((rd_T38 l0 x2000_1).f2).length c109_2, .bool ((rd_T38 l0 x2000_1).f3), .bool ((rd_T38 l0 x2000_1).f4), .bool ((rd_T38 l0 x2000_1).f5), .bool ((rd_T38 l0 x2000_1).f6), .int .i64 0]) ?_ 7 _ rfl; (with_reducible repeat (first | refine blk_drewN ?_ _ | refine blk_drew ?_ | refine blk_alloc ?_ _)); refine blk_put (cs := #[.bool (false), .int .i64 ((rd_T38 l0 x2000_1).f1), .slice A109_2 ((rd_T38 l0 x2000_1).f2).length c109_2, .bool ((rd_T38 l0 x2000_1).f3), .bool ((rd_T38 l0 x2000_1).f4), .bool ((rd_T38 l0 x2000_1).f5), .bool false, .int .i64 0]) ?_ 6 _ rfl; (with_reducible repeat (first | refine blk_drewN ?_ _ | refine blk_drew ?_ | refine blk_alloc ?_ _)); refine blk_put (cs := #[.bool (false), .int .i64 ((rd_T38 l0 x2000_1).f1), .slice A109_2 ((rd_T38 l0 x2000_1).f2).length c109_2, .bool ((rd_T38 l0 x2000_1).f3), .bool ((rd_T38 l0 x2000_1).f4), .bool false, .bool false, .int .i64 0]) ?_ 5 _ rfl; (with_reducible repeat (first | refine blk_drewN ?_ _ | refine blk_drew ?_ | refine blk_alloc ?_ _)); refine blk_put (cs := #[.bool (false), .int .i64 ((rd_T38 l0 x2000_1).f1), .slice A109_2 ((rd_T38 l0 x2000_1).f2).length c109_2, .bool ((rd_T38 l0 x2000_1).f3), .bool false, .bool false, .bool false, .int .i64 0]) ?_ 4 _ rfl; (with_reducible repeat (first | refine blk_drewN ?_ _ | refine blk_drew ?_ | refine blk_alloc ?_ _)); refine blk_put (cs := #[.bool (false), .int .i64 ((rd_T38 l0 x2000_1).f1), .slice A109_2 ((rd_T38 l0 x2000_1).f2).length c109_2, .bool false, .bool false, .bool false, .bool false, .int .i64 0]) ?_ 3 _ rfl; (with_reducible repeat (first | refine blk_drewN ?_ _ | refine blk_drew ?_ | refine blk_alloc ?_ _)); refine blk_put (cs := #[.bool (false), .int .i64 ((rd_T38 l0 x2000_1).f1), .slice none 0 0, .bool false, .bool false, .bool false, .bool false, .int .i64 0]) ?_ 2 _ rfl; (with_reducible repeat (first | refine blk_drewN ?_ _ | refine blk_drew ?_ | refine blk_alloc ?_ _)); refine blk_put (cs := #[.bool (false), .int .i64 0, .slice none 0 0, .bool false, .bool false, .bool false, .bool false, .int .i64 0]) ?_ 1 _ rfl; (with_reducible repeat (first | refine blk_drewN ?_ _ | refine blk_drew ?_ | refine blk_alloc ?_ _)); refine blk_put (cs := #[.bool false, .int .i64 0, .slice none 0 0, .bool false, .bool false, .bool false, .bool false, .int .i64 0]) ?_ 0 _ rfl; (with_reducible repeat (first | refine blk_drewN ?_ _ | refine blk_drew ?_ | refine blk_alloc ?_ _)); exact BK110.out⟩
              have n4_ : Aside0 (IsS64 w ((((((((w20.setCell ⟨gb110, 0, none⟩ (.bool (false))).setCell ⟨gb110, 1, none⟩ (.int .i64 ((rd_T38 l0 x2000_1).f1))).setCell ⟨gb110, 2, none⟩ (.slice A109_2 ((rd_T38 l0 x2000_1).f2).length c109_2)).setCell ⟨gb110, 3, none⟩ (.bool ((rd_T38 l0 x2000_1).f3))).setCell ⟨gb110, 4, none⟩ (.bool ((rd_T38 l0 x2000_1).f4))).setCell ⟨gb110, 5, none⟩ (.bool ((rd_T38 l0 x2000_1).f5))).setCell ⟨gb110, 6, none⟩ (.bool ((rd_T38 l0 x2000_1).f6))).setCell ⟨gb110, 7, none⟩ (.int .i64 ((rd_T38 l0 x2000_1).f7))) g x2000_1 x2001_1 x2002_1 true x2004_1 x2005_1 x2006_1 x2007_1) := ⟨by repeat (first | (with_reducible first | exact HI1.out | apply IsS64.alloc | apply IsS64.drewN | apply IsS64.drew | apply IsS64.set_0 | apply IsS64.set_1 | apply IsS64.set_2 | apply IsS64.set_3 | apply IsS64.set_4 | apply IsS64.set_5 | apply IsS64.set_6 | apply IsS64.set_7 | refine IsS64.far ?_ NB1_108.out _ | refine IsS64.far ?_ NB1_110.out _) | exact HI1.out)⟩
              have n5_ : Aside0 (KeepBut w ((((((((w20.setCell ⟨gb110, 0, none⟩ (.bool (false))).setCell ⟨gb110, 1, none⟩ (.int .i64 ((rd_T38 l0 x2000_1).f1))).setCell ⟨gb110, 2, none⟩ (.slice A109_2 ((rd_T38 l0 x2000_1).f2).length c109_2)).setCell ⟨gb110, 3, none⟩ (.bool ((rd_T38 l0 x2000_1).f3))).setCell ⟨gb110, 4, none⟩ (.bool ((rd_T38 l0 x2000_1).f4))).setCell ⟨gb110, 5, none⟩ (.bool ((rd_T38 l0 x2000_1).f5))).setCell ⟨gb110, 6, none⟩ (.bool ((rd_T38 l0 x2000_1).f6))).setCell ⟨gb110, 7, none⟩ (.int .i64 ((rd_T38 l0 x2000_1).f7))) g none) := ⟨by repeat (first | (with_reducible first | exact HK.out | apply KeepBut.set_ | apply keep_drewN | apply keep_drew | apply keep_alloc | refine keep_far ?_ GW108.out _ | refine keep_far ?_ GW110.out _) | exact HK.out)⟩
              have n6_ : Aside0 (Below w.heap.size w ((((((((w20.setCell ⟨gb110, 0, none⟩ (.bool (false))).setCell ⟨gb110, 1, none⟩ (.int .i64 ((rd_T38 l0 x2000_1).f1))).setCell ⟨gb110, 2, none⟩ (.slice A109_2 ((rd_T38 l0 x2000_1).f2).length c109_2)).setCell ⟨gb110, 3, none⟩ (.bool ((rd_T38 l0 x2000_1).f3))).setCell ⟨gb110, 4, none⟩ (.bool ((rd_T38 l0 x2000_1).f4))).setCell ⟨gb110, 5, none⟩ (.bool ((rd_T38 l0 x2000_1).f5))).setCell ⟨gb110, 6, none⟩ (.bool ((rd_T38 l0 x2000_1).f6))).setCell ⟨gb110, 7, none⟩ (.int .i64 ((rd_T38 l0 x2000_1).f7)))) := ⟨by repeat (first | (with_reducible first | exact HB.out | apply below_alloc | apply pw_below_drewN | apply below_drew1 | refine below_set ?_ (IsS64.ge HI1.out) | refine below_set ?_ GE108.out | refine below_set ?_ GE110.out) | exact HB.out)⟩
              (try clear HO_9)
              (try clear HO_10)
              (try clear BK108)
              (try clear BK110)
              (try clear HI1)
              (try clear HK)
              (try clear HB)
              generalize ((((((((w20.setCell ⟨gb110, 0, none⟩ (.bool (false))).setCell ⟨gb110, 1, none⟩ (.int .i64 ((rd_T38 l0 x2000_1).f1))).setCell ⟨gb110, 2, none⟩ (.slice A109_2 ((rd_T38 l0 x2000_1).f2).length c109_2)).setCell ⟨gb110, 3, none⟩ (.bool ((rd_T38 l0 x2000_1).f3))).setCell ⟨gb110, 4, none⟩ (.bool ((rd_T38 l0 x2000_1).f4))).setCell ⟨gb110, 5, none⟩ (.bool ((rd_T38 l0 x2000_1).f5))).setCell ⟨gb110, 6, none⟩ (.bool ((rd_T38 l0 x2000_1).f6))).setCell ⟨gb110, 7, none⟩ (.int .i64 ((rd_T38 l0 x2000_1).f7))) = w35 at n0_ n1_ n2_ n3_ n4_ n5_ n6_ ⊢
              have HO_9 := n0_
              have HO_10 := n1_
              have BK108 := n2_
              have BK110 := n3_
              have HI1 := n4_
              have HK := n5_
              have HB := n6_
              clear n0_ n1_ n2_ n3_ n4_ n5_ n6_
              replace HO_9 := Aside0.mk (Kd.R_drew HO_9.out)
              replace HO_10 := Aside0.mk (Kd.R_drew HO_10.out)
              replace BK108 := Aside0.mk (blk_drew BK108.out)
              replace BK110 := Aside0.mk (blk_drew BK110.out)
              replace HI1 := Aside0.mk (IsS64.drew HI1.out)
              replace HK := Aside0.mk (keep_drew HK.out)
              replace HB := Aside0.mk (below_drew1 HB.out)
              refine start_ (n := 25) (S := fun w' => w'.cell? ⟨gb110, 0, none⟩ = some (.bool false) ∧ w'.cell? ⟨gb110, 1, none⟩ = some (.int .i64 ((rd_T38 l0 x2000_1).f1)) ∧ w'.cell? ⟨gb110, 2, none⟩ = some (.slice A109_2 ((rd_T38 l0 x2000_1).f2).length c109_2) ∧ w'.cell? ⟨gb110, 3, none⟩ = some (.bool ((rd_T38 l0 x2000_1).f3)) ∧ w'.cell? ⟨gb110, 4, none⟩ = some (.bool ((rd_T38 l0 x2000_1).f4)) ∧ w'.cell? ⟨gb110, 5, none⟩ = some (.bool ((rd_T38 l0 x2000_1).f5)) ∧ w'.cell? ⟨gb110, 6, none⟩ = some (.bool ((rd_T38 l0 x2000_1).f6)) ∧ w'.cell? ⟨gb110, 7, none⟩ = some (.int .i64 ((rd_T38 l0 x2000_1).f7)) ∧ w'.cell? ⟨g, 0, none⟩ = some (.int .i64 x2000_1) ∧ w'.cell? ⟨g, 1, none⟩ = some (.int .i64 x2001_1) ∧ w'.cell? ⟨g, 2, none⟩ = some (.int .i64 x2002_1) ∧ w'.cell? ⟨g, 3, none⟩ = some (.bool true) ∧ w'.cell? ⟨g, 4, none⟩ = some (.bool x2004_1) ∧ w'.cell? ⟨g, 5, none⟩ = some (.bool x2005_1) ∧ w'.cell? ⟨g, 6, none⟩ = some (.bool x2006_1) ∧ w'.cell? ⟨g, 7, none⟩ = some (.bool x2007_1)) (ds := []) #[false, false, false, false, false, false, false, false, false, false, false, false, false, false, false, false, false, false, false, false, false, false, false, false, false] (by kernel_rfl) rfl rfl ⟨(blk_cell BK110.out 0).trans rfl, (blk_cell BK110.out 1).trans rfl, (blk_cell BK110.out 2).trans rfl, (blk_cell BK110.out 3).trans rfl, (blk_cell BK110.out 4).trans rfl, (blk_cell BK110.out 5).trans rfl, (blk_cell BK110.out 6).trans rfl, (blk_cell BK110.out 7).trans rfl, (cellS64_0 HI1.out.1), (cellS64_1 HI1.out.1), (cellS64_2 HI1.out.1), (cellS64_3 HI1.out.1), (cellS64_4 HI1.out.1), (cellS64_5 HI1.out.1), (cellS64_6 HI1.out.1), (cellS64_7 HI1.out.1)⟩ (fun hHeld => ?_); refine with_tabW partitaref10_walk.tab10 partitaref10_walk.bits10 (fun HT_ HW_ => ?_)
              generalize w35.drew = w36 at HO_9 HO_10 BK108 BK110 HI1 HK HB hHeld ⊢
              refine pureS 0 (some 45) (bs 1 25) ?_
              refine take_ (i := 1) (N := some 46) (v := ?_) (a' := ?_) (bs 3 25) rfl rfl (take_ofW HT_.out HW_.out (by kernel_rfl)) (fun _ _ _ h => h) (Or.inl ⟨by rfl, ?_⟩) hHeld ?_ ?_
              rotate_left
              · rintro w' ⟨s0, s1, s2, s3, s4, s5, s6, s7, s8, s9, s10, s11, s12, s13, s14, s15⟩
                go_simp
                with_reducible rfl
              rotate_left
              · simp only [Act.put, List.setIfInBounds_toArray, List.set_cons_zero, List.set_cons_succ, i64_w, i32_w]
                rfl
              refine pureS 2 (some 47) (bs 7 25) ?_
              refine pure_ (i := 3) (N := some 48) (v := undef) (a' := ?_) (bs 15 25) rfl rfl (any_of HT_.out (by kernel_rfl)) (fun _ _ _ h => h) (Or.inr ⟨by rfl, rfl⟩) ?_ ?_
              rotate_left
              · simp only [Act.put, List.setIfInBounds_toArray, List.set_cons_zero, List.set_cons_succ, i64_w, i32_w]
                rfl
              refine pure_ (i := 4) (N := some 49) (v := undef) (a' := ?_) (bs 31 25) rfl rfl (any_of HT_.out (by kernel_rfl)) (fun _ _ _ h => h) (Or.inr ⟨by rfl, rfl⟩) ?_ ?_
              rotate_left
              · simp only [Act.put, List.setIfInBounds_toArray, List.set_cons_zero, List.set_cons_succ, i64_w, i32_w]
                rfl
              refine pure_ (i := 5) (N := some 50) (v := undef) (a' := ?_) (bs 63 25) rfl rfl (any_of HT_.out (by kernel_rfl)) (fun _ _ _ h => h) (Or.inr ⟨by rfl, rfl⟩) ?_ ?_
              rotate_left
              · simp only [Act.put, List.setIfInBounds_toArray, List.set_cons_zero, List.set_cons_succ, i64_w, i32_w]
                rfl
              refine pure_ (i := 6) (N := some 51) (v := undef) (a' := ?_) (bs 127 25) rfl rfl (any_of HT_.out (by kernel_rfl)) (fun _ _ _ h => h) (Or.inr ⟨by rfl, rfl⟩) ?_ ?_
              rotate_left
              · simp only [Act.put, List.setIfInBounds_toArray, List.set_cons_zero, List.set_cons_succ, i64_w, i32_w]
                rfl
              refine pure_ (i := 7) (N := some 52) (v := undef) (a' := ?_) (bs 255 25) rfl rfl (any_of HT_.out (by kernel_rfl)) (fun _ _ _ h => h) (Or.inr ⟨by rfl, rfl⟩) ?_ ?_
              rotate_left
              · simp only [Act.put, List.setIfInBounds_toArray, List.set_cons_zero, List.set_cons_succ, i64_w, i32_w]
                rfl
              refine pure_ (i := 8) (N := some 53) (v := undef) (a' := ?_) (bs 511 25) rfl rfl (any_of HT_.out (by kernel_rfl)) (fun _ _ _ h => h) (Or.inr ⟨by rfl, rfl⟩) ?_ ?_
              rotate_left
              · simp only [Act.put, List.setIfInBounds_toArray, List.set_cons_zero, List.set_cons_succ, i64_w, i32_w]
                rfl
              refine pure_ (i := 9) (N := some 54) (v := undef) (a' := ?_) (bs 1023 25) rfl rfl (any_of HT_.out (by kernel_rfl)) (fun _ _ _ h => h) (Or.inr ⟨by rfl, rfl⟩) ?_ ?_
              rotate_left
              · simp only [Act.put, List.setIfInBounds_toArray, List.set_cons_zero, List.set_cons_succ, i64_w, i32_w]
                rfl
              refine pure_ (i := 10) (N := some 55) (v := undef) (a' := ?_) (bs 2047 25) rfl rfl (any_of HT_.out (by kernel_rfl)) (fun _ _ _ h => h) (Or.inr ⟨by rfl, rfl⟩) ?_ ?_
              rotate_left
              · simp only [Act.put, List.setIfInBounds_toArray, List.set_cons_zero, List.set_cons_succ, i64_w, i32_w]
                rfl
              refine pure_ (i := 11) (N := some 56) (v := undef) (a' := ?_) (bs 4095 25) rfl rfl (any_of HT_.out (by kernel_rfl)) (fun _ _ _ h => h) (Or.inr ⟨by rfl, rfl⟩) ?_ ?_
              rotate_left
              · simp only [Act.put, List.setIfInBounds_toArray, List.set_cons_zero, List.set_cons_succ, i64_w, i32_w]
                rfl
              refine pureS 12 (some 57) (bs 8191 25) ?_
              refine pureS 13 (some 58) (bs 16383 25) ?_
              refine pureS 14 (some 59) (bs 32767 25) ?_
              refine pureS 15 (some 60) (bs 65535 25) ?_
              refine pureS 16 (some 61) (bs 131071 25) ?_
              refine take_ (i := 17) (N := some 62) (v := ?_) (a' := ?_) (bs 262143 25) rfl rfl (take_ofW HT_.out HW_.out (by kernel_rfl)) (fun _ _ _ h => h) (Or.inl ⟨by rfl, ?_⟩) hHeld ?_ ?_
              rotate_left
              · rintro w' ⟨s0, s1, s2, s3, s4, s5, s6, s7, s8, s9, s10, s11, s12, s13, s14, s15⟩
                go_simp
                with_reducible rfl
              rotate_left
              · simp only [Act.put, List.setIfInBounds_toArray, List.set_cons_zero, List.set_cons_succ, i64_w, i32_w]
                rfl
              refine pureS 18 (some 63) (bs 524287 25) ?_
              refine pureS 19 (some 64) (bs 1048575 25) ?_
              refine take_ (i := 20) (N := some 65) (v := ?_) (a' := ?_) (bs 2097151 25) rfl rfl (take_ofW HT_.out HW_.out (by kernel_rfl)) (fun _ _ _ h => h) (Or.inl ⟨by rfl, ?_⟩) hHeld ?_ ?_
              rotate_left
              · rintro w' ⟨s0, s1, s2, s3, s4, s5, s6, s7, s8, s9, s10, s11, s12, s13, s14, s15⟩
                go_simp
                with_reducible rfl
              rotate_left
              · simp only [Act.put, List.setIfInBounds_toArray, List.set_cons_zero, List.set_cons_succ, i64_w, i32_w]
                rfl
              refine pureS 21 (some 66) (bs 4194303 25) ?_
              refine pureS 22 (some 67) (bs 8388607 25) ?_
              refine pureS 23 (some 68) (bs 16777215 25) ?_
              refine pureS 24 (some 69) (bs 33554431 25) ?_
              refine done_ (done_of HT_.out (by kernel_rfl)) ?_
              try go_wp2
              go_meet
              case rel => (try rw [← Nbq24.out]); exact ⟨_, (((((rd_T38 l0 x2000_1).f2).length : Int) == 0)), qq3, H', ⟨qqB⟩, ⟨qR HO_9.out⟩, ⟨qR HO_10.out⟩, ⟨bq BK108.out⟩, ⟨bq BK110.out⟩, ⟨by repeat (first | (with_reducible first | exact HI1.out | apply IsS64.alloc | apply IsS64.drewN | apply IsS64.drew | apply IsS64.set_0 | apply IsS64.set_1 | apply IsS64.set_2 | apply IsS64.set_3 | apply IsS64.set_4 | apply IsS64.set_5 | apply IsS64.set_6 | apply IsS64.set_7 | refine IsS64.far ?_ NB1_108.out _ | refine IsS64.far ?_ NB1_110.out _) | exact HI1.out)⟩, ⟨by repeat (first | (with_reducible first | exact HK.out | apply KeepBut.set_ | apply keep_drewN | apply keep_drew | apply keep_alloc | refine keep_far ?_ GW108.out _ | refine keep_far ?_ GW110.out _) | exact HK.out)⟩, ⟨by repeat (first | (with_reducible first | exact HB.out | apply below_alloc | apply pw_below_drewN | apply below_drew1 | refine below_set ?_ (IsS64.ge HI1.out) | refine below_set ?_ GE108.out | refine below_set ?_ GE110.out) | exact HB.out)⟩⟩
            subst c25
            have H1 : (if x2000_1 = x2002_1 then (if x2003_1 = true then (partitaref10_walk.j2 kj10 l0 x9_1 x10_1 ((((rd_T38 l0 x2000_1).f2).length : Int) == 0) x2000_1 x2001_1 x2002_1 x2003_1 x2004_1 x2005_1 x2006_1 x2007_1 t103 t104 t105 t106 t107 true ((rd_T38 l0 x2000_1).f1) ((rd_T38 l0 x2000_1).f3) ((rd_T38 l0 x2000_1).f4) ((rd_T38 l0 x2000_1).f5) ((rd_T38 l0 x2000_1).f6) ((rd_T38 l0 x2000_1).f7)) else (partitaref10_walk.j2 kj10 l0 x9_1 x10_1 false x2000_1 x2001_1 x2002_1 x2003_1 x2004_1 x2005_1 x2006_1 x2007_1 t103 t104 t105 t106 t107 true ((rd_T38 l0 x2000_1).f1) ((rd_T38 l0 x2000_1).f3) ((rd_T38 l0 x2000_1).f4) ((rd_T38 l0 x2000_1).f5) ((rd_T38 l0 x2000_1).f6) ((rd_T38 l0 x2000_1).f7))) else (partitaref10_walk.j2 kj10 l0 x9_1 x10_1 true x2000_1 x2001_1 x2002_1 x2003_1 x2004_1 x2005_1 x2006_1 x2007_1 t103 t104 t105 t106 t107 true ((rd_T38 l0 x2000_1).f1) ((rd_T38 l0 x2000_1).f3) ((rd_T38 l0 x2000_1).f4) ((rd_T38 l0 x2000_1).f5) ((rd_T38 l0 x2000_1).f6) ((rd_T38 l0 x2000_1).f7))) = some (r1, r2, r3, r4, r5, r6, r7, r8, r9, r10, r11) := by rw [if_pos rfl] at H; exact H
            clear H
            have H := H1
            clear H1
            by_cases c26 : x2000_1 = x2002_1
            rotate_left
            · rw [if_neg c26] at H
              have c26b0 : (x2000_1 == x2002_1) = false := beq_eq_false_iff_ne.mpr c26
              have c26b1 : (x2000_1 != x2002_1) = true := bne_iff_ne.mpr c26
              have H' := Aside0.mk H
              clear H
              try go_wp2
              have n0_ : Aside0 (Kd.R (Kd.int .i64) 3 ((((((((w20.setCell ⟨gb110, 0, none⟩ (.bool (true))).setCell ⟨gb110, 1, none⟩ (.int .i64 ((rd_T38 l0 x2000_1).f1))).setCell ⟨gb110, 2, none⟩ (.slice A109_2 ((rd_T38 l0 x2000_1).f2).length c109_2)).setCell ⟨gb110, 3, none⟩ (.bool ((rd_T38 l0 x2000_1).f3))).setCell ⟨gb110, 4, none⟩ (.bool ((rd_T38 l0 x2000_1).f4))).setCell ⟨gb110, 5, none⟩ (.bool ((rd_T38 l0 x2000_1).f5))).setCell ⟨gb110, 6, none⟩ (.bool ((rd_T38 l0 x2000_1).f6))).setCell ⟨gb110, 7, none⟩ (.int .i64 ((rd_T38 l0 x2000_1).f7))) w.heap.size (fun k_ => some k_ ≠ (u10 : Value).ownBlock) u9 x9_1) := ⟨qqa⟩
              have n1_ : Aside0 (Kd.R (Kd.int .i64) 3 ((((((((w20.setCell ⟨gb110, 0, none⟩ (.bool (true))).setCell ⟨gb110, 1, none⟩ (.int .i64 ((rd_T38 l0 x2000_1).f1))).setCell ⟨gb110, 2, none⟩ (.slice A109_2 ((rd_T38 l0 x2000_1).f2).length c109_2)).setCell ⟨gb110, 3, none⟩ (.bool ((rd_T38 l0 x2000_1).f3))).setCell ⟨gb110, 4, none⟩ (.bool ((rd_T38 l0 x2000_1).f4))).setCell ⟨gb110, 5, none⟩ (.bool ((rd_T38 l0 x2000_1).f5))).setCell ⟨gb110, 6, none⟩ (.bool ((rd_T38 l0 x2000_1).f6))).setCell ⟨gb110, 7, none⟩ (.int .i64 ((rd_T38 l0 x2000_1).f7))) w.heap.size (fun k_ => some k_ ≠ (u9 : Value).ownBlock) u10 x10_1) := ⟨qq9⟩
              have n2_ : Aside0 (((((((((w20.setCell ⟨gb110, 0, none⟩ (.bool (true))).setCell ⟨gb110, 1, none⟩ (.int .i64 ((rd_T38 l0 x2000_1).f1))).setCell ⟨gb110, 2, none⟩ (.slice A109_2 ((rd_T38 l0 x2000_1).f2).length c109_2)).setCell ⟨gb110, 3, none⟩ (.bool ((rd_T38 l0 x2000_1).f3))).setCell ⟨gb110, 4, none⟩ (.bool ((rd_T38 l0 x2000_1).f4))).setCell ⟨gb110, 5, none⟩ (.bool ((rd_T38 l0 x2000_1).f5))).setCell ⟨gb110, 6, none⟩ (.bool ((rd_T38 l0 x2000_1).f6))).setCell ⟨gb110, 7, none⟩ (.int .i64 ((rd_T38 l0 x2000_1).f7))).heap[gb108]? = some (.cells #[.int .i64 t103, .int .i64 t104, .int .i64 t105, .bool t106, .bool t107] 55 (0, 0))) := ⟨by (with_reducible repeat (first | refine blk_drewN ?_ _ | refine blk_drew ?_ | refine blk_alloc ?_ _)); refine blk_far ?_ NB108_110.out _; (with_reducible repeat (first | refine blk_drewN ?_ _ | refine blk_drew ?_ | refine blk_alloc ?_ _)); refine blk_far ?_ NB108_110.out _; (with_reducible repeat (first | refine blk_drewN ?_ _ | refine blk_drew ?_ | refine blk_alloc ?_ _)); refine blk_far ?_ NB108_110.out _; (with_reducible repeat (first | refine blk_drewN ?_ _ | refine blk_drew ?_ | refine blk_alloc ?_ _)); refine blk_far ?_ NB108_110.out _; (with_reducible repeat (first | refine blk_drewN ?_ _ | refine blk_drew ?_ | refine blk_alloc ?_ _)); refine blk_far ?_ NB108_110.out _; (with_reducible repeat (first | refine blk_drewN ?_ _ | refine blk_drew ?_ | refine blk_alloc ?_ _)); refine blk_far ?_ NB108_110.out _; (with_reducible repeat (first | refine blk_drewN ?_ _ | refine blk_drew ?_ | refine blk_alloc ?_ _)); refine blk_far ?_ NB108_110.out _; (with_reducible repeat (first | refine blk_drewN ?_ _ | refine blk_drew ?_ | refine blk_alloc ?_ _)); refine blk_far ?_ NB108_110.out _; (with_reducible repeat (first | refine blk_drewN ?_ _ | refine blk_drew ?_ | refine blk_alloc ?_ _)); exact BK108.out⟩
              have n3_ : Aside0 (((((((((w20.setCell ⟨gb110, 0, none⟩ (.bool (true))).setCell ⟨gb110, 1, none⟩ (.int .i64 ((rd_T38 l0 x2000_1).f1))).setCell ⟨gb110, 2, none⟩ (.slice A109_2 ((rd_T38 l0 x2000_1).f2).length c109_2)).setCell ⟨gb110, 3, none⟩ (.bool ((rd_T38 l0 x2000_1).f3))).setCell ⟨gb110, 4, none⟩ (.bool ((rd_T38 l0 x2000_1).f4))).setCell ⟨gb110, 5, none⟩ (.bool ((rd_T38 l0 x2000_1).f5))).setCell ⟨gb110, 6, none⟩ (.bool ((rd_T38 l0 x2000_1).f6))).setCell ⟨gb110, 7, none⟩ (.int .i64 ((rd_T38 l0 x2000_1).f7))).heap[gb110]? = some (.cells #[.bool true, .int .i64 ((rd_T38 l0 x2000_1).f1), .slice A109_2 ((rd_T38 l0 x2000_1).f2).length c109_2, .bool ((rd_T38 l0 x2000_1).f3), .bool ((rd_T38 l0 x2000_1).f4), .bool ((rd_T38 l0 x2000_1).f5), .bool ((rd_T38 l0 x2000_1).f6), .int .i64 ((rd_T38 l0 x2000_1).f7)] 38 (0, 0))) := ⟨by (with_reducible repeat (first | refine blk_drewN ?_ _ | refine blk_drew ?_ | refine blk_alloc ?_ _)); refine blk_put (cs := #[.bool (true), .int .i64 ((rd_T38 l0 x2000_1).f1), .slice A109_2 ((rd_T38 l0 x2000_1).f2).length c109_2, .bool ((rd_T38 l0 x2000_1).f3), .bool ((rd_T38 l0 x2000_1).f4), .bool ((rd_T38 l0 x2000_1).f5), .bool ((rd_T38 l0 x2000_1).f6), .int .i64 0]) ?_ 7 _ rfl; (with_reducible repeat (first | refine blk_drewN ?_ _ | refine blk_drew ?_ | refine blk_alloc ?_ _)); refine blk_put (cs := #[.bool (true), .int .i64 ((rd_T38 l0 x2000_1).f1), .slice A109_2 ((rd_T38 l0 x2000_1).f2).length c109_2, .bool ((rd_T38 l0 x2000_1).f3), .bool ((rd_T38 l0 x2000_1).f4), .bool ((rd_T38 l0 x2000_1).f5), .bool false, .int .i64 0]) ?_ 6 _ rfl; (with_reducible repeat (first | refine blk_drewN ?_ _ | refine blk_drew ?_ | refine blk_alloc ?_ _)); refine blk_put (cs := #[.bool (true), .int .i64 ((rd_T38 l0 x2000_1).f1), .slice A109_2 ((rd_T38 l0 x2000_1).f2).length c109_2, .bool ((rd_T38 l0 x2000_1).f3), .bool ((rd_T38 l0 x2000_1).f4), .bool false, .bool false, .int .i64 0]) ?_ 5 _ rfl; (with_reducible repeat (first | refine blk_drewN ?_ _ | refine blk_drew ?_ | refine blk_alloc ?_ _)); refine blk_put (cs := #[.bool (true), .int .i64 ((rd_T38 l0 x2000_1).f1), .slice A109_2 ((rd_T38 l0 x2000_1).f2).length c109_2, .bool ((rd_T38 l0 x2000_1).f3), .bool false, .bool false, .bool false, .int .i64 0]) ?_ 4 _ rfl; (with_reducible repeat (first | refine blk_drewN ?_ _ | refine blk_drew ?_ | refine blk_alloc ?_ _)); refine blk_put (cs := #[.bool (true), .int .i64 ((rd_T38 l0 x2000_1).f1), .slice A109_2 ((rd_T38 l0 x2000_1).f2).length c109_2, .bool false, .bool false, .bool false, .bool false, .int .i64 0]) ?_ 3 _ rfl; (with_reducible repeat (first | refine blk_drewN ?_ _ | refine blk_drew ?_ | refine blk_alloc ?_ _)); refine blk_put (cs := #[.bool (true), .int .i64 ((rd_T38 l0 x2000_1).f1), .slice none 0 0, .bool false, .bool false, .bool false, .bool false, .int .i64 0]) ?_ 2 _ rfl; (with_reducible repeat (first | refine blk_drewN ?_ _ | refine blk_drew ?_ | refine blk_alloc ?_ _)); refine blk_put (cs := #[.bool (true), .int .i64 0, .slice none 0 0, .bool false, .bool false, .bool false, .bool false, .int .i64 0]) ?_ 1 _ rfl; (with_reducible repeat (first | refine blk_drewN ?_ _ | refine blk_drew ?_ | refine blk_alloc ?_ _)); refine blk_put (cs := #[.bool false, .int .i64 0, .slice none 0 0, .bool false, .bool false, .bool false, .bool false, .int .i64 0]) ?_ 0 _ rfl; (with_reducible repeat (first | refine blk_drewN ?_ _ | refine blk_drew ?_ | refine blk_alloc ?_ _)); exact BK110.out⟩
              have n4_ : Aside0 (IsS64 w ((((((((w20.setCell ⟨gb110, 0, none⟩ (.bool (true))).setCell ⟨gb110, 1, none⟩ (.int .i64 ((rd_T38 l0 x2000_1).f1))).setCell ⟨gb110, 2, none⟩ (.slice A109_2 ((rd_T38 l0 x2000_1).f2).length c109_2)).setCell ⟨gb110, 3, none⟩ (.bool ((rd_T38 l0 x2000_1).f3))).setCell ⟨gb110, 4, none⟩ (.bool ((rd_T38 l0 x2000_1).f4))).setCell ⟨gb110, 5, none⟩ (.bool ((rd_T38 l0 x2000_1).f5))).setCell ⟨gb110, 6, none⟩ (.bool ((rd_T38 l0 x2000_1).f6))).setCell ⟨gb110, 7, none⟩ (.int .i64 ((rd_T38 l0 x2000_1).f7))) g x2000_1 x2001_1 x2002_1 x2003_1 x2004_1 x2005_1 x2006_1 x2007_1) := ⟨by repeat (first | (with_reducible first | exact HI1.out | apply IsS64.alloc | apply IsS64.drewN | apply IsS64.drew | apply IsS64.set_0 | apply IsS64.set_1 | apply IsS64.set_2 | apply IsS64.set_3 | apply IsS64.set_4 | apply IsS64.set_5 | apply IsS64.set_6 | apply IsS64.set_7 | refine IsS64.far ?_ NB1_108.out _ | refine IsS64.far ?_ NB1_110.out _) | exact HI1.out)⟩
              have n5_ : Aside0 (KeepBut w ((((((((w20.setCell ⟨gb110, 0, none⟩ (.bool (true))).setCell ⟨gb110, 1, none⟩ (.int .i64 ((rd_T38 l0 x2000_1).f1))).setCell ⟨gb110, 2, none⟩ (.slice A109_2 ((rd_T38 l0 x2000_1).f2).length c109_2)).setCell ⟨gb110, 3, none⟩ (.bool ((rd_T38 l0 x2000_1).f3))).setCell ⟨gb110, 4, none⟩ (.bool ((rd_T38 l0 x2000_1).f4))).setCell ⟨gb110, 5, none⟩ (.bool ((rd_T38 l0 x2000_1).f5))).setCell ⟨gb110, 6, none⟩ (.bool ((rd_T38 l0 x2000_1).f6))).setCell ⟨gb110, 7, none⟩ (.int .i64 ((rd_T38 l0 x2000_1).f7))) g none) := ⟨by repeat (first | (with_reducible first | exact HK.out | apply KeepBut.set_ | apply keep_drewN | apply keep_drew | apply keep_alloc | refine keep_far ?_ GW108.out _ | refine keep_far ?_ GW110.out _) | exact HK.out)⟩
              have n6_ : Aside0 (Below w.heap.size w ((((((((w20.setCell ⟨gb110, 0, none⟩ (.bool (true))).setCell ⟨gb110, 1, none⟩ (.int .i64 ((rd_T38 l0 x2000_1).f1))).setCell ⟨gb110, 2, none⟩ (.slice A109_2 ((rd_T38 l0 x2000_1).f2).length c109_2)).setCell ⟨gb110, 3, none⟩ (.bool ((rd_T38 l0 x2000_1).f3))).setCell ⟨gb110, 4, none⟩ (.bool ((rd_T38 l0 x2000_1).f4))).setCell ⟨gb110, 5, none⟩ (.bool ((rd_T38 l0 x2000_1).f5))).setCell ⟨gb110, 6, none⟩ (.bool ((rd_T38 l0 x2000_1).f6))).setCell ⟨gb110, 7, none⟩ (.int .i64 ((rd_T38 l0 x2000_1).f7)))) := ⟨by repeat (first | (with_reducible first | exact HB.out | apply below_alloc | apply pw_below_drewN | apply below_drew1 | refine below_set ?_ (IsS64.ge HI1.out) | refine below_set ?_ GE108.out | refine below_set ?_ GE110.out) | exact HB.out)⟩
              (try clear HO_9)
              (try clear HO_10)
              (try clear BK108)
              (try clear BK110)
              (try clear HI1)
              (try clear HK)
              (try clear HB)
              generalize ((((((((w20.setCell ⟨gb110, 0, none⟩ (.bool (true))).setCell ⟨gb110, 1, none⟩ (.int .i64 ((rd_T38 l0 x2000_1).f1))).setCell ⟨gb110, 2, none⟩ (.slice A109_2 ((rd_T38 l0 x2000_1).f2).length c109_2)).setCell ⟨gb110, 3, none⟩ (.bool ((rd_T38 l0 x2000_1).f3))).setCell ⟨gb110, 4, none⟩ (.bool ((rd_T38 l0 x2000_1).f4))).setCell ⟨gb110, 5, none⟩ (.bool ((rd_T38 l0 x2000_1).f5))).setCell ⟨gb110, 6, none⟩ (.bool ((rd_T38 l0 x2000_1).f6))).setCell ⟨gb110, 7, none⟩ (.int .i64 ((rd_T38 l0 x2000_1).f7))) = w32 at n0_ n1_ n2_ n3_ n4_ n5_ n6_ ⊢
              have HO_9 := n0_
              have HO_10 := n1_
              have BK108 := n2_
              have BK110 := n3_
              have HI1 := n4_
              have HK := n5_
              have HB := n6_
              clear n0_ n1_ n2_ n3_ n4_ n5_ n6_
              replace HO_9 := Aside0.mk (Kd.R_drew HO_9.out)
              replace HO_10 := Aside0.mk (Kd.R_drew HO_10.out)
              replace BK108 := Aside0.mk (blk_drew BK108.out)
              replace BK110 := Aside0.mk (blk_drew BK110.out)
              replace HI1 := Aside0.mk (IsS64.drew HI1.out)
              replace HK := Aside0.mk (keep_drew HK.out)
              replace HB := Aside0.mk (below_drew1 HB.out)
              refine start_ (n := 25) (S := fun w' => w'.cell? ⟨gb110, 0, none⟩ = some (.bool true) ∧ w'.cell? ⟨gb110, 1, none⟩ = some (.int .i64 ((rd_T38 l0 x2000_1).f1)) ∧ w'.cell? ⟨gb110, 2, none⟩ = some (.slice A109_2 ((rd_T38 l0 x2000_1).f2).length c109_2) ∧ w'.cell? ⟨gb110, 3, none⟩ = some (.bool ((rd_T38 l0 x2000_1).f3)) ∧ w'.cell? ⟨gb110, 4, none⟩ = some (.bool ((rd_T38 l0 x2000_1).f4)) ∧ w'.cell? ⟨gb110, 5, none⟩ = some (.bool ((rd_T38 l0 x2000_1).f5)) ∧ w'.cell? ⟨gb110, 6, none⟩ = some (.bool ((rd_T38 l0 x2000_1).f6)) ∧ w'.cell? ⟨gb110, 7, none⟩ = some (.int .i64 ((rd_T38 l0 x2000_1).f7)) ∧ w'.cell? ⟨g, 0, none⟩ = some (.int .i64 x2000_1) ∧ w'.cell? ⟨g, 1, none⟩ = some (.int .i64 x2001_1) ∧ w'.cell? ⟨g, 2, none⟩ = some (.int .i64 x2002_1) ∧ w'.cell? ⟨g, 3, none⟩ = some (.bool x2003_1) ∧ w'.cell? ⟨g, 4, none⟩ = some (.bool x2004_1) ∧ w'.cell? ⟨g, 5, none⟩ = some (.bool x2005_1) ∧ w'.cell? ⟨g, 6, none⟩ = some (.bool x2006_1) ∧ w'.cell? ⟨g, 7, none⟩ = some (.bool x2007_1)) (ds := []) #[false, false, false, false, false, false, false, false, false, false, false, false, false, false, false, false, false, false, false, false, false, false, false, false, false] (by kernel_rfl) rfl rfl ⟨(blk_cell BK110.out 0).trans rfl, (blk_cell BK110.out 1).trans rfl, (blk_cell BK110.out 2).trans rfl, (blk_cell BK110.out 3).trans rfl, (blk_cell BK110.out 4).trans rfl, (blk_cell BK110.out 5).trans rfl, (blk_cell BK110.out 6).trans rfl, (blk_cell BK110.out 7).trans rfl, (cellS64_0 HI1.out.1), (cellS64_1 HI1.out.1), (cellS64_2 HI1.out.1), (cellS64_3 HI1.out.1), (cellS64_4 HI1.out.1), (cellS64_5 HI1.out.1), (cellS64_6 HI1.out.1), (cellS64_7 HI1.out.1)⟩ (fun hHeld => ?_); refine with_tabW partitaref10_walk.tab10 partitaref10_walk.bits10 (fun HT_ HW_ => ?_)
              generalize w32.drew = w33 at HO_9 HO_10 BK108 BK110 HI1 HK HB hHeld ⊢
              refine pureS 0 (some 45) (bs 1 25) ?_
              refine take_ (i := 1) (N := some 46) (v := ?_) (a' := ?_) (bs 3 25) rfl rfl (take_ofW HT_.out HW_.out (by kernel_rfl)) (fun _ _ _ h => h) (Or.inl ⟨by rfl, ?_⟩) hHeld ?_ ?_
              rotate_left
              · rintro w' ⟨s0, s1, s2, s3, s4, s5, s6, s7, s8, s9, s10, s11, s12, s13, s14, s15⟩
                go_simp
                with_reducible rfl
              rotate_left
              · simp only [Act.put, List.setIfInBounds_toArray, List.set_cons_zero, List.set_cons_succ, i64_w, i32_w]
                rfl
              refine pureS 2 (some 47) (bs 7 25) ?_
              refine pureS 3 (some 48) (bs 15 25) ?_
              refine pureS 4 (some 49) (bs 31 25) ?_
              refine pureS 5 (some 50) (bs 63 25) ?_
              refine pureS 7 (some 52) (bs 191 25) ?_
              refine pureS 8 (some 53) (bs 447 25) ?_
              refine pureS 9 (some 54) (bs 959 25) ?_
              refine take_ (i := 6) (N := some 51) (v := ?_) (a' := ?_) (bs 1023 25) rfl rfl (take_ofW HT_.out HW_.out (by kernel_rfl)) (fun _ _ _ h => h) (Or.inl ⟨by rfl, ?_⟩) hHeld ?_ ?_
              rotate_left
              · rintro w' ⟨s0, s1, s2, s3, s4, s5, s6, s7, s8, s9, s10, s11, s12, s13, s14, s15⟩
                go_simp
                with_reducible rfl
              rotate_left
              · simp only [Act.put, List.setIfInBounds_toArray, List.set_cons_zero, List.set_cons_succ, i64_w, i32_w]
                rfl
              refine take_ (i := 10) (N := some 55) (v := ?_) (a' := ?_) (bs 2047 25) rfl rfl (take_ofW HT_.out HW_.out (by kernel_rfl)) (fun _ _ _ h => h) (Or.inl ⟨by rfl, ?_⟩) hHeld ?_ ?_
              rotate_left
              · rintro w' ⟨s0, s1, s2, s3, s4, s5, s6, s7, s8, s9, s10, s11, s12, s13, s14, s15⟩
                go_simp
                with_reducible rfl
              rotate_left
              · simp only [Act.put, List.setIfInBounds_toArray, List.set_cons_zero, List.set_cons_succ, i64_w, i32_w]
                rfl
              refine pureS 11 (some 56) (bs 4095 25) ?_
              refine pureS 12 (some 57) (bs 8191 25) ?_
              refine pureS 13 (some 58) (bs 16383 25) ?_
              refine pure_ (i := 14) (N := some 59) (v := undef) (a' := ?_) (bs 32767 25) rfl rfl (any_of HT_.out (by kernel_rfl)) (fun _ _ _ h => h) (Or.inr ⟨by rfl, rfl⟩) ?_ ?_
              rotate_left
              · simp only [Act.put, List.setIfInBounds_toArray, List.set_cons_zero, List.set_cons_succ, i64_w, i32_w]
                rfl
              refine pure_ (i := 15) (N := some 60) (v := undef) (a' := ?_) (bs 65535 25) rfl rfl (any_of HT_.out (by kernel_rfl)) (fun _ _ _ h => h) (Or.inr ⟨by rfl, rfl⟩) ?_ ?_
              rotate_left
              · simp only [Act.put, List.setIfInBounds_toArray, List.set_cons_zero, List.set_cons_succ, i64_w, i32_w]
                rfl
              refine pure_ (i := 16) (N := some 61) (v := undef) (a' := ?_) (bs 131071 25) rfl rfl (any_of HT_.out (by kernel_rfl)) (fun _ _ _ h => h) (Or.inr ⟨by rfl, rfl⟩) ?_ ?_
              rotate_left
              · simp only [Act.put, List.setIfInBounds_toArray, List.set_cons_zero, List.set_cons_succ, i64_w, i32_w]
                rfl
              refine pure_ (i := 17) (N := some 62) (v := undef) (a' := ?_) (bs 262143 25) rfl rfl (any_of HT_.out (by kernel_rfl)) (fun _ _ _ h => h) (Or.inr ⟨by rfl, rfl⟩) ?_ ?_
              rotate_left
              · simp only [Act.put, List.setIfInBounds_toArray, List.set_cons_zero, List.set_cons_succ, i64_w, i32_w]
                rfl
              refine pure_ (i := 18) (N := some 63) (v := undef) (a' := ?_) (bs 524287 25) rfl rfl (any_of HT_.out (by kernel_rfl)) (fun _ _ _ h => h) (Or.inr ⟨by rfl, rfl⟩) ?_ ?_
              rotate_left
              · simp only [Act.put, List.setIfInBounds_toArray, List.set_cons_zero, List.set_cons_succ, i64_w, i32_w]
                rfl
              refine pure_ (i := 19) (N := some 64) (v := undef) (a' := ?_) (bs 1048575 25) rfl rfl (any_of HT_.out (by kernel_rfl)) (fun _ _ _ h => h) (Or.inr ⟨by rfl, rfl⟩) ?_ ?_
              rotate_left
              · simp only [Act.put, List.setIfInBounds_toArray, List.set_cons_zero, List.set_cons_succ, i64_w, i32_w]
                rfl
              refine pure_ (i := 20) (N := some 65) (v := undef) (a' := ?_) (bs 2097151 25) rfl rfl (any_of HT_.out (by kernel_rfl)) (fun _ _ _ h => h) (Or.inr ⟨by rfl, rfl⟩) ?_ ?_
              rotate_left
              · simp only [Act.put, List.setIfInBounds_toArray, List.set_cons_zero, List.set_cons_succ, i64_w, i32_w]
                rfl
              refine pure_ (i := 21) (N := some 66) (v := undef) (a' := ?_) (bs 4194303 25) rfl rfl (any_of HT_.out (by kernel_rfl)) (fun _ _ _ h => h) (Or.inr ⟨by rfl, rfl⟩) ?_ ?_
              rotate_left
              · simp only [Act.put, List.setIfInBounds_toArray, List.set_cons_zero, List.set_cons_succ, i64_w, i32_w]
                rfl
              refine pure_ (i := 22) (N := some 67) (v := undef) (a' := ?_) (bs 8388607 25) rfl rfl (any_of HT_.out (by kernel_rfl)) (fun _ _ _ h => h) (Or.inr ⟨by rfl, rfl⟩) ?_ ?_
              rotate_left
              · simp only [Act.put, List.setIfInBounds_toArray, List.set_cons_zero, List.set_cons_succ, i64_w, i32_w]
                rfl
              refine pure_ (i := 23) (N := some 68) (v := undef) (a' := ?_) (bs 16777215 25) rfl rfl (any_of HT_.out (by kernel_rfl)) (fun _ _ _ h => h) (Or.inr ⟨by rfl, rfl⟩) ?_ ?_
              rotate_left
              · simp only [Act.put, List.setIfInBounds_toArray, List.set_cons_zero, List.set_cons_succ, i64_w, i32_w]
                rfl
              refine pureS 24 (some 69) (bs 33554431 25) ?_
              refine done_ (done_of HT_.out (by kernel_rfl)) ?_
              try go_wp2
              go_meet
              case rel => (try rw [← Nbq24.out]); exact ⟨_, (true), qq3, H', ⟨qqB⟩, ⟨qR HO_9.out⟩, ⟨qR HO_10.out⟩, ⟨bq BK108.out⟩, ⟨bq BK110.out⟩, ⟨by repeat (first | (with_reducible first | exact HI1.out | apply IsS64.alloc | apply IsS64.drewN | apply IsS64.drew | apply IsS64.set_0 | apply IsS64.set_1 | apply IsS64.set_2 | apply IsS64.set_3 | apply IsS64.set_4 | apply IsS64.set_5 | apply IsS64.set_6 | apply IsS64.set_7 | refine IsS64.far ?_ NB1_108.out _ | refine IsS64.far ?_ NB1_110.out _) | exact HI1.out)⟩, ⟨by repeat (first | (with_reducible first | exact HK.out | apply KeepBut.set_ | apply keep_drewN | apply keep_drew | apply keep_alloc | refine keep_far ?_ GW108.out _ | refine keep_far ?_ GW110.out _) | exact HK.out)⟩, ⟨by repeat (first | (with_reducible first | exact HB.out | apply below_alloc | apply pw_below_drewN | apply below_drew1 | refine below_set ?_ (IsS64.ge HI1.out) | refine below_set ?_ GE108.out | refine below_set ?_ GE110.out) | exact HB.out)⟩⟩
            rw [if_pos c26] at H
            have c26b0 : (x2000_1 == x2002_1) = true := beq_iff_eq.mpr c26
            have c26b1 : (x2000_1 != x2002_1) = false := bne_eq_false_iff_eq.mpr c26
            clear c26
            by_cases c27 : x2003_1 = true
            rotate_left
            · replace c27 := Bool.eq_false_iff.mpr c27
              subst c27
              have H1 : (partitaref10_walk.j2 kj10 l0 x9_1 x10_1 false x2000_1 x2001_1 x2002_1 false x2004_1 x2005_1 x2006_1 x2007_1 t103 t104 t105 t106 t107 true ((rd_T38 l0 x2000_1).f1) ((rd_T38 l0 x2000_1).f3) ((rd_T38 l0 x2000_1).f4) ((rd_T38 l0 x2000_1).f5) ((rd_T38 l0 x2000_1).f6) ((rd_T38 l0 x2000_1).f7)) = some (r1, r2, r3, r4, r5, r6, r7, r8, r9, r10, r11) := by rw [if_neg (show ¬ (false = true) by decide)] at H; exact H
              clear H
              have H := H1
              clear H1
              have H' := Aside0.mk H
              clear H
              try go_wp2
              have n0_ : Aside0 (Kd.R (Kd.int .i64) 3 ((((((((w20.setCell ⟨gb110, 0, none⟩ (.bool (true))).setCell ⟨gb110, 1, none⟩ (.int .i64 ((rd_T38 l0 x2000_1).f1))).setCell ⟨gb110, 2, none⟩ (.slice A109_2 ((rd_T38 l0 x2000_1).f2).length c109_2)).setCell ⟨gb110, 3, none⟩ (.bool ((rd_T38 l0 x2000_1).f3))).setCell ⟨gb110, 4, none⟩ (.bool ((rd_T38 l0 x2000_1).f4))).setCell ⟨gb110, 5, none⟩ (.bool ((rd_T38 l0 x2000_1).f5))).setCell ⟨gb110, 6, none⟩ (.bool ((rd_T38 l0 x2000_1).f6))).setCell ⟨gb110, 7, none⟩ (.int .i64 ((rd_T38 l0 x2000_1).f7))) w.heap.size (fun k_ => some k_ ≠ (u10 : Value).ownBlock) u9 x9_1) := ⟨qqa⟩
              have n1_ : Aside0 (Kd.R (Kd.int .i64) 3 ((((((((w20.setCell ⟨gb110, 0, none⟩ (.bool (true))).setCell ⟨gb110, 1, none⟩ (.int .i64 ((rd_T38 l0 x2000_1).f1))).setCell ⟨gb110, 2, none⟩ (.slice A109_2 ((rd_T38 l0 x2000_1).f2).length c109_2)).setCell ⟨gb110, 3, none⟩ (.bool ((rd_T38 l0 x2000_1).f3))).setCell ⟨gb110, 4, none⟩ (.bool ((rd_T38 l0 x2000_1).f4))).setCell ⟨gb110, 5, none⟩ (.bool ((rd_T38 l0 x2000_1).f5))).setCell ⟨gb110, 6, none⟩ (.bool ((rd_T38 l0 x2000_1).f6))).setCell ⟨gb110, 7, none⟩ (.int .i64 ((rd_T38 l0 x2000_1).f7))) w.heap.size (fun k_ => some k_ ≠ (u9 : Value).ownBlock) u10 x10_1) := ⟨qq9⟩
              have n2_ : Aside0 (((((((((w20.setCell ⟨gb110, 0, none⟩ (.bool (true))).setCell ⟨gb110, 1, none⟩ (.int .i64 ((rd_T38 l0 x2000_1).f1))).setCell ⟨gb110, 2, none⟩ (.slice A109_2 ((rd_T38 l0 x2000_1).f2).length c109_2)).setCell ⟨gb110, 3, none⟩ (.bool ((rd_T38 l0 x2000_1).f3))).setCell ⟨gb110, 4, none⟩ (.bool ((rd_T38 l0 x2000_1).f4))).setCell ⟨gb110, 5, none⟩ (.bool ((rd_T38 l0 x2000_1).f5))).setCell ⟨gb110, 6, none⟩ (.bool ((rd_T38 l0 x2000_1).f6))).setCell ⟨gb110, 7, none⟩ (.int .i64 ((rd_T38 l0 x2000_1).f7))).heap[gb108]? = some (.cells #[.int .i64 t103, .int .i64 t104, .int .i64 t105, .bool t106, .bool t107] 55 (0, 0))) := ⟨by (with_reducible repeat (first | refine blk_drewN ?_ _ | refine blk_drew ?_ | refine blk_alloc ?_ _)); refine blk_far ?_ NB108_110.out _; (with_reducible repeat (first | refine blk_drewN ?_ _ | refine blk_drew ?_ | refine blk_alloc ?_ _)); refine blk_far ?_ NB108_110.out _; (with_reducible repeat (first | refine blk_drewN ?_ _ | refine blk_drew ?_ | refine blk_alloc ?_ _)); refine blk_far ?_ NB108_110.out _; (with_reducible repeat (first | refine blk_drewN ?_ _ | refine blk_drew ?_ | refine blk_alloc ?_ _)); refine blk_far ?_ NB108_110.out _; (with_reducible repeat (first | refine blk_drewN ?_ _ | refine blk_drew ?_ | refine blk_alloc ?_ _)); refine blk_far ?_ NB108_110.out _; (with_reducible repeat (first | refine blk_drewN ?_ _ | refine blk_drew ?_ | refine blk_alloc ?_ _)); refine blk_far ?_ NB108_110.out _; (with_reducible repeat (first | refine blk_drewN ?_ _ | refine blk_drew ?_ | refine blk_alloc ?_ _)); refine blk_far ?_ NB108_110.out _; (with_reducible repeat (first | refine blk_drewN ?_ _ | refine blk_drew ?_ | refine blk_alloc ?_ _)); refine blk_far ?_ NB108_110.out _; (with_reducible repeat (first | refine blk_drewN ?_ _ | refine blk_drew ?_ | refine blk_alloc ?_ _)); exact BK108.out⟩
              have n3_ : Aside0 (((((((((w20.setCell ⟨gb110, 0, none⟩ (.bool (true))).setCell ⟨gb110, 1, none⟩ (.int .i64 ((rd_T38 l0 x2000_1).f1))).setCell ⟨gb110, 2, none⟩ (.slice A109_2 ((rd_T38 l0 x2000_1).f2).length c109_2)).setCell ⟨gb110, 3, none⟩ (.bool ((rd_T38 l0 x2000_1).f3))).setCell ⟨gb110, 4, none⟩ (.bool ((rd_T38 l0 x2000_1).f4))).setCell ⟨gb110, 5, none⟩ (.bool ((rd_T38 l0 x2000_1).f5))).setCell ⟨gb110, 6, none⟩ (.bool ((rd_T38 l0 x2000_1).f6))).setCell ⟨gb110, 7, none⟩ (.int .i64 ((rd_T38 l0 x2000_1).f7))).heap[gb110]? = some (.cells #[.bool true, .int .i64 ((rd_T38 l0 x2000_1).f1), .slice A109_2 ((rd_T38 l0 x2000_1).f2).length c109_2, .bool ((rd_T38 l0 x2000_1).f3), .bool ((rd_T38 l0 x2000_1).f4), .bool ((rd_T38 l0 x2000_1).f5), .bool ((rd_T38 l0 x2000_1).f6), .int .i64 ((rd_T38 l0 x2000_1).f7)] 38 (0, 0))) := ⟨by (with_reducible repeat (first | refine blk_drewN ?_ _ | refine blk_drew ?_ | refine blk_alloc ?_ _)); refine blk_put (cs := #[.bool (true), .int .i64 ((rd_T38 l0 x2000_1).f1), .slice A109_2 ((rd_T38 l0 x2000_1).f2).length c109_2, .bool ((rd_T38 l0 x2000_1).f3), .bool ((rd_T38 l0 x2000_1).f4), .bool ((rd_T38 l0 x2000_1).f5), .bool ((rd_T38 l0 x2000_1).f6), .int .i64 0]) ?_ 7 _ rfl; (with_reducible repeat (first | refine blk_drewN ?_ _ | refine blk_drew ?_ | refine blk_alloc ?_ _)); refine blk_put (cs := #[.bool (true), .int .i64 ((rd_T38 l0 x2000_1).f1), .slice A109_2 ((rd_T38 l0 x2000_1).f2).length c109_2, .bool ((rd_T38 l0 x2000_1).f3), .bool ((rd_T38 l0 x2000_1).f4), .bool ((rd_T38 l0 x2000_1).f5), .bool false, .int .i64 0]) ?_ 6 _ rfl; (with_reducible repeat (first | refine blk_drewN ?_ _ | refine blk_drew ?_ | refine blk_alloc ?_ _)); refine blk_put (cs := #[.bool (true), .int .i64 ((rd_T38 l0 x2000_1).f1), .slice A109_2 ((rd_T38 l0 x2000_1).f2).length c109_2, .bool ((rd_T38 l0 x2000_1).f3), .bool ((rd_T38 l0 x2000_1).f4), .bool false, .bool false, .int .i64 0]) ?_ 5 _ rfl; (with_reducible repeat (first | refine blk_drewN ?_ _ | refine blk_drew ?_ | refine blk_alloc ?_ _)); refine blk_put (cs := #[.bool (true), .int .i64 ((rd_T38 l0 x2000_1).f1), .slice A109_2 ((rd_T38 l0 x2000_1).f2).length c109_2, .bool ((rd_T38 l0 x2000_1).f3), .bool false, .bool false, .bool false, .int .i64 0]) ?_ 4 _ rfl; (with_reducible repeat (first | refine blk_drewN ?_ _ | refine blk_drew ?_ | refine blk_alloc ?_ _)); refine blk_put (cs := #[.bool (true), .int .i64 ((rd_T38 l0 x2000_1).f1), .slice A109_2 ((rd_T38 l0 x2000_1).f2).length c109_2, .bool false, .bool false, .bool false, .bool false, .int .i64 0]) ?_ 3 _ rfl; (with_reducible repeat (first | refine blk_drewN ?_ _ | refine blk_drew ?_ | refine blk_alloc ?_ _)); refine blk_put (cs := #[.bool (true), .int .i64 ((rd_T38 l0 x2000_1).f1), .slice none 0 0, .bool false, .bool false, .bool false, .bool false, .int .i64 0]) ?_ 2 _ rfl; (with_reducible repeat (first | refine blk_drewN ?_ _ | refine blk_drew ?_ | refine blk_alloc ?_ _)); refine blk_put (cs := #[.bool (true), .int .i64 0, .slice none 0 0, .bool false, .bool false, .bool false, .bool false, .int .i64 0]) ?_ 1 _ rfl; (with_reducible repeat (first | refine blk_drewN ?_ _ | refine blk_drew ?_ | refine blk_alloc ?_ _)); refine blk_put (cs := #[.bool false, .int .i64 0, .slice none 0 0, .bool false, .bool false, .bool false, .bool false, .int .i64 0]) ?_ 0 _ rfl; (with_reducible repeat (first | refine blk_drewN ?_ _ | refine blk_drew ?_ | refine blk_alloc ?_ _)); exact BK110.out⟩
              have n4_ : Aside0 (IsS64 w ((((((((w20.setCell ⟨gb110, 0, none⟩ (.bool (true))).setCell ⟨gb110, 1, none⟩ (.int .i64 ((rd_T38 l0 x2000_1).f1))).setCell ⟨gb110, 2, none⟩ (.slice A109_2 ((rd_T38 l0 x2000_1).f2).length c109_2)).setCell ⟨gb110, 3, none⟩ (.bool ((rd_T38 l0 x2000_1).f3))).setCell ⟨gb110, 4, none⟩ (.bool ((rd_T38 l0 x2000_1).f4))).setCell ⟨gb110, 5, none⟩ (.bool ((rd_T38 l0 x2000_1).f5))).setCell ⟨gb110, 6, none⟩ (.bool ((rd_T38 l0 x2000_1).f6))).setCell ⟨gb110, 7, none⟩ (.int .i64 ((rd_T38 l0 x2000_1).f7))) g x2000_1 x2001_1 x2002_1 false x2004_1 x2005_1 x2006_1 x2007_1) := ⟨by repeat (first | (with_reducible first | exact HI1.out | apply IsS64.alloc | apply IsS64.drewN | apply IsS64.drew | apply IsS64.set_0 | apply IsS64.set_1 | apply IsS64.set_2 | apply IsS64.set_3 | apply IsS64.set_4 | apply IsS64.set_5 | apply IsS64.set_6 | apply IsS64.set_7 | refine IsS64.far ?_ NB1_108.out _ | refine IsS64.far ?_ NB1_110.out _) | exact HI1.out)⟩
              have n5_ : Aside0 (KeepBut w ((((((((w20.setCell ⟨gb110, 0, none⟩ (.bool (true))).setCell ⟨gb110, 1, none⟩ (.int .i64 ((rd_T38 l0 x2000_1).f1))).setCell ⟨gb110, 2, none⟩ (.slice A109_2 ((rd_T38 l0 x2000_1).f2).length c109_2)).setCell ⟨gb110, 3, none⟩ (.bool ((rd_T38 l0 x2000_1).f3))).setCell ⟨gb110, 4, none⟩ (.bool ((rd_T38 l0 x2000_1).f4))).setCell ⟨gb110, 5, none⟩ (.bool ((rd_T38 l0 x2000_1).f5))).setCell ⟨gb110, 6, none⟩ (.bool ((rd_T38 l0 x2000_1).f6))).setCell ⟨gb110, 7, none⟩ (.int .i64 ((rd_T38 l0 x2000_1).f7))) g none) := ⟨by repeat (first | (with_reducible first | exact HK.out | apply KeepBut.set_ | apply keep_drewN | apply keep_drew | apply keep_alloc | refine keep_far ?_ GW108.out _ | refine keep_far ?_ GW110.out _) | exact HK.out)⟩
              have n6_ : Aside0 (Below w.heap.size w ((((((((w20.setCell ⟨gb110, 0, none⟩ (.bool (true))).setCell ⟨gb110, 1, none⟩ (.int .i64 ((rd_T38 l0 x2000_1).f1))).setCell ⟨gb110, 2, none⟩ (.slice A109_2 ((rd_T38 l0 x2000_1).f2).length c109_2)).setCell ⟨gb110, 3, none⟩ (.bool ((rd_T38 l0 x2000_1).f3))).setCell ⟨gb110, 4, none⟩ (.bool ((rd_T38 l0 x2000_1).f4))).setCell ⟨gb110, 5, none⟩ (.bool ((rd_T38 l0 x2000_1).f5))).setCell ⟨gb110, 6, none⟩ (.bool ((rd_T38 l0 x2000_1).f6))).setCell ⟨gb110, 7, none⟩ (.int .i64 ((rd_T38 l0 x2000_1).f7)))) := ⟨by repeat (first | (with_reducible first | exact HB.out | apply below_alloc | apply pw_below_drewN | apply below_drew1 | refine below_set ?_ (IsS64.ge HI1.out) | refine below_set ?_ GE108.out | refine below_set ?_ GE110.out) | exact HB.out)⟩
              (try clear HO_9)
              (try clear HO_10)
              (try clear BK108)
              (try clear BK110)
              (try clear HI1)
              (try clear HK)
              (try clear HB)
              generalize ((((((((w20.setCell ⟨gb110, 0, none⟩ (.bool (true))).setCell ⟨gb110, 1, none⟩ (.int .i64 ((rd_T38 l0 x2000_1).f1))).setCell ⟨gb110, 2, none⟩ (.slice A109_2 ((rd_T38 l0 x2000_1).f2).length c109_2)).setCell ⟨gb110, 3, none⟩ (.bool ((rd_T38 l0 x2000_1).f3))).setCell ⟨gb110, 4, none⟩ (.bool ((rd_T38 l0 x2000_1).f4))).setCell ⟨gb110, 5, none⟩ (.bool ((rd_T38 l0 x2000_1).f5))).setCell ⟨gb110, 6, none⟩ (.bool ((rd_T38 l0 x2000_1).f6))).setCell ⟨gb110, 7, none⟩ (.int .i64 ((rd_T38 l0 x2000_1).f7))) = w30 at n0_ n1_ n2_ n3_ n4_ n5_ n6_ ⊢
              have HO_9 := n0_
              have HO_10 := n1_
              have BK108 := n2_
              have BK110 := n3_
              have HI1 := n4_
              have HK := n5_
              have HB := n6_
              clear n0_ n1_ n2_ n3_ n4_ n5_ n6_
              replace HO_9 := Aside0.mk (Kd.R_drew HO_9.out)
              replace HO_10 := Aside0.mk (Kd.R_drew HO_10.out)
              replace BK108 := Aside0.mk (blk_drew BK108.out)
              replace BK110 := Aside0.mk (blk_drew BK110.out)
              replace HI1 := Aside0.mk (IsS64.drew HI1.out)
              replace HK := Aside0.mk (keep_drew HK.out)
              replace HB := Aside0.mk (below_drew1 HB.out)
              refine start_ (n := 25) (S := fun w' => w'.cell? ⟨gb110, 0, none⟩ = some (.bool true) ∧ w'.cell? ⟨gb110, 1, none⟩ = some (.int .i64 ((rd_T38 l0 x2000_1).f1)) ∧ w'.cell? ⟨gb110, 2, none⟩ = some (.slice A109_2 ((rd_T38 l0 x2000_1).f2).length c109_2) ∧ w'.cell? ⟨gb110, 3, none⟩ = some (.bool ((rd_T38 l0 x2000_1).f3)) ∧ w'.cell? ⟨gb110, 4, none⟩ = some (.bool ((rd_T38 l0 x2000_1).f4)) ∧ w'.cell? ⟨gb110, 5, none⟩ = some (.bool ((rd_T38 l0 x2000_1).f5)) ∧ w'.cell? ⟨gb110, 6, none⟩ = some (.bool ((rd_T38 l0 x2000_1).f6)) ∧ w'.cell? ⟨gb110, 7, none⟩ = some (.int .i64 ((rd_T38 l0 x2000_1).f7)) ∧ w'.cell? ⟨g, 0, none⟩ = some (.int .i64 x2000_1) ∧ w'.cell? ⟨g, 1, none⟩ = some (.int .i64 x2001_1) ∧ w'.cell? ⟨g, 2, none⟩ = some (.int .i64 x2002_1) ∧ w'.cell? ⟨g, 3, none⟩ = some (.bool false) ∧ w'.cell? ⟨g, 4, none⟩ = some (.bool x2004_1) ∧ w'.cell? ⟨g, 5, none⟩ = some (.bool x2005_1) ∧ w'.cell? ⟨g, 6, none⟩ = some (.bool x2006_1) ∧ w'.cell? ⟨g, 7, none⟩ = some (.bool x2007_1)) (ds := []) #[false, false, false, false, false, false, false, false, false, false, false, false, false, false, false, false, false, false, false, false, false, false, false, false, false] (by kernel_rfl) rfl rfl ⟨(blk_cell BK110.out 0).trans rfl, (blk_cell BK110.out 1).trans rfl, (blk_cell BK110.out 2).trans rfl, (blk_cell BK110.out 3).trans rfl, (blk_cell BK110.out 4).trans rfl, (blk_cell BK110.out 5).trans rfl, (blk_cell BK110.out 6).trans rfl, (blk_cell BK110.out 7).trans rfl, (cellS64_0 HI1.out.1), (cellS64_1 HI1.out.1), (cellS64_2 HI1.out.1), (cellS64_3 HI1.out.1), (cellS64_4 HI1.out.1), (cellS64_5 HI1.out.1), (cellS64_6 HI1.out.1), (cellS64_7 HI1.out.1)⟩ (fun hHeld => ?_); refine with_tabW partitaref10_walk.tab10 partitaref10_walk.bits10 (fun HT_ HW_ => ?_)
              generalize w30.drew = w31 at HO_9 HO_10 BK108 BK110 HI1 HK HB hHeld ⊢
              refine pureS 0 (some 45) (bs 1 25) ?_
              refine take_ (i := 1) (N := some 46) (v := ?_) (a' := ?_) (bs 3 25) rfl rfl (take_ofW HT_.out HW_.out (by kernel_rfl)) (fun _ _ _ h => h) (Or.inl ⟨by rfl, ?_⟩) hHeld ?_ ?_
              rotate_left
              · rintro w' ⟨s0, s1, s2, s3, s4, s5, s6, s7, s8, s9, s10, s11, s12, s13, s14, s15⟩
                go_simp
                with_reducible rfl
              rotate_left
              · simp only [Act.put, List.setIfInBounds_toArray, List.set_cons_zero, List.set_cons_succ, i64_w, i32_w]
                rfl
              refine pureS 2 (some 47) (bs 7 25) ?_
              refine pureS 3 (some 48) (bs 15 25) ?_
              refine pureS 4 (some 49) (bs 31 25) ?_
              refine pureS 5 (some 50) (bs 63 25) ?_
              refine pureS 7 (some 52) (bs 191 25) ?_
              refine pureS 8 (some 53) (bs 447 25) ?_
              refine pureS 9 (some 54) (bs 959 25) ?_
              refine take_ (i := 6) (N := some 51) (v := ?_) (a' := ?_) (bs 1023 25) rfl rfl (take_ofW HT_.out HW_.out (by kernel_rfl)) (fun _ _ _ h => h) (Or.inl ⟨by rfl, ?_⟩) hHeld ?_ ?_
              rotate_left
              · rintro w' ⟨s0, s1, s2, s3, s4, s5, s6, s7, s8, s9, s10, s11, s12, s13, s14, s15⟩
                go_simp
                with_reducible rfl
              rotate_left
              · simp only [Act.put, List.setIfInBounds_toArray, List.set_cons_zero, List.set_cons_succ, i64_w, i32_w]
                rfl
              refine take_ (i := 10) (N := some 55) (v := ?_) (a' := ?_) (bs 2047 25) rfl rfl (take_ofW HT_.out HW_.out (by kernel_rfl)) (fun _ _ _ h => h) (Or.inl ⟨by rfl, ?_⟩) hHeld ?_ ?_
              rotate_left
              · rintro w' ⟨s0, s1, s2, s3, s4, s5, s6, s7, s8, s9, s10, s11, s12, s13, s14, s15⟩
                go_simp
                with_reducible rfl
              rotate_left
              · simp only [Act.put, List.setIfInBounds_toArray, List.set_cons_zero, List.set_cons_succ, i64_w, i32_w]
                rfl
              refine pureS 11 (some 56) (bs 4095 25) ?_
              refine pureS 12 (some 57) (bs 8191 25) ?_
              refine pureS 13 (some 58) (bs 16383 25) ?_
              refine pureS 14 (some 59) (bs 32767 25) ?_
              refine pureS 15 (some 60) (bs 65535 25) ?_
              refine pureS 16 (some 61) (bs 131071 25) ?_
              refine take_ (i := 17) (N := some 62) (v := ?_) (a' := ?_) (bs 262143 25) rfl rfl (take_ofW HT_.out HW_.out (by kernel_rfl)) (fun _ _ _ h => h) (Or.inl ⟨by rfl, ?_⟩) hHeld ?_ ?_
              rotate_left
              · rintro w' ⟨s0, s1, s2, s3, s4, s5, s6, s7, s8, s9, s10, s11, s12, s13, s14, s15⟩
                go_simp
                with_reducible rfl
              rotate_left
              · simp only [Act.put, List.setIfInBounds_toArray, List.set_cons_zero, List.set_cons_succ, i64_w, i32_w]
                rfl
              refine pureS 18 (some 63) (bs 524287 25) ?_
              refine pure_ (i := 19) (N := some 64) (v := undef) (a' := ?_) (bs 1048575 25) rfl rfl (any_of HT_.out (by kernel_rfl)) (fun _ _ _ h => h) (Or.inr ⟨by rfl, rfl⟩) ?_ ?_
              rotate_left
              · simp only [Act.put, List.setIfInBounds_toArray, List.set_cons_zero, List.set_cons_succ, i64_w, i32_w]
                rfl
              refine pure_ (i := 20) (N := some 65) (v := undef) (a' := ?_) (bs 2097151 25) rfl rfl (any_of HT_.out (by kernel_rfl)) (fun _ _ _ h => h) (Or.inr ⟨by rfl, rfl⟩) ?_ ?_
              rotate_left
              · simp only [Act.put, List.setIfInBounds_toArray, List.set_cons_zero, List.set_cons_succ, i64_w, i32_w]
                rfl
              refine pure_ (i := 21) (N := some 66) (v := undef) (a' := ?_) (bs 4194303 25) rfl rfl (any_of HT_.out (by kernel_rfl)) (fun _ _ _ h => h) (Or.inr ⟨by rfl, rfl⟩) ?_ ?_
              rotate_left
              · simp only [Act.put, List.setIfInBounds_toArray, List.set_cons_zero, List.set_cons_succ, i64_w, i32_w]
                rfl
              refine pure_ (i := 22) (N := some 67) (v := undef) (a' := ?_) (bs 8388607 25) rfl rfl (any_of HT_.out (by kernel_rfl)) (fun _ _ _ h => h) (Or.inr ⟨by rfl, rfl⟩) ?_ ?_
              rotate_left
              · simp only [Act.put, List.setIfInBounds_toArray, List.set_cons_zero, List.set_cons_succ, i64_w, i32_w]
                rfl
              refine pureS 23 (some 68) (bs 16777215 25) ?_
              refine pureS 24 (some 69) (bs 33554431 25) ?_
              refine done_ (done_of HT_.out (by kernel_rfl)) ?_
              try go_wp2
              go_meet
              case rel => (try rw [← Nbq24.out]); exact ⟨_, (false), qq3, H', ⟨qqB⟩, ⟨qR HO_9.out⟩, ⟨qR HO_10.out⟩, ⟨bq BK108.out⟩, ⟨bq BK110.out⟩, ⟨by repeat (first | (with_reducible first | exact HI1.out | apply IsS64.alloc | apply IsS64.drewN | apply IsS64.drew | apply IsS64.set_0 | apply IsS64.set_1 | apply IsS64.set_2 | apply IsS64.set_3 | apply IsS64.set_4 | apply IsS64.set_5 | apply IsS64.set_6 | apply IsS64.set_7 | refine IsS64.far ?_ NB1_108.out _ | refine IsS64.far ?_ NB1_110.out _) | exact HI1.out)⟩, ⟨by repeat (first | (with_reducible first | exact HK.out | apply KeepBut.set_ | apply keep_drewN | apply keep_drew | apply keep_alloc | refine keep_far ?_ GW108.out _ | refine keep_far ?_ GW110.out _) | exact HK.out)⟩, ⟨by repeat (first | (with_reducible first | exact HB.out | apply below_alloc | apply pw_below_drewN | apply below_drew1 | refine below_set ?_ (IsS64.ge HI1.out) | refine below_set ?_ GE108.out | refine below_set ?_ GE110.out) | exact HB.out)⟩⟩
            subst c27
            have H1 : (partitaref10_walk.j2 kj10 l0 x9_1 x10_1 ((((rd_T38 l0 x2000_1).f2).length : Int) == 0) x2000_1 x2001_1 x2002_1 true x2004_1 x2005_1 x2006_1 x2007_1 t103 t104 t105 t106 t107 true ((rd_T38 l0 x2000_1).f1) ((rd_T38 l0 x2000_1).f3) ((rd_T38 l0 x2000_1).f4) ((rd_T38 l0 x2000_1).f5) ((rd_T38 l0 x2000_1).f6) ((rd_T38 l0 x2000_1).f7)) = some (r1, r2, r3, r4, r5, r6, r7, r8, r9, r10, r11) := by rw [if_pos rfl] at H; exact H
            clear H
            have H := H1
            clear H1
            have H' := Aside0.mk H
            clear H
            try go_wp2
            have n0_ : Aside0 (Kd.R (Kd.int .i64) 3 ((((((((w20.setCell ⟨gb110, 0, none⟩ (.bool (true))).setCell ⟨gb110, 1, none⟩ (.int .i64 ((rd_T38 l0 x2000_1).f1))).setCell ⟨gb110, 2, none⟩ (.slice A109_2 ((rd_T38 l0 x2000_1).f2).length c109_2)).setCell ⟨gb110, 3, none⟩ (.bool ((rd_T38 l0 x2000_1).f3))).setCell ⟨gb110, 4, none⟩ (.bool ((rd_T38 l0 x2000_1).f4))).setCell ⟨gb110, 5, none⟩ (.bool ((rd_T38 l0 x2000_1).f5))).setCell ⟨gb110, 6, none⟩ (.bool ((rd_T38 l0 x2000_1).f6))).setCell ⟨gb110, 7, none⟩ (.int .i64 ((rd_T38 l0 x2000_1).f7))) w.heap.size (fun k_ => some k_ ≠ (u10 : Value).ownBlock) u9 x9_1) := ⟨qqa⟩
            have n1_ : Aside0 (Kd.R (Kd.int .i64) 3 ((((((((w20.setCell ⟨gb110, 0, none⟩ (.bool (true))).setCell ⟨gb110, 1, none⟩ (.int .i64 ((rd_T38 l0 x2000_1).f1))).setCell ⟨gb110, 2, none⟩ (.slice A109_2 ((rd_T38 l0 x2000_1).f2).length c109_2)).setCell ⟨gb110, 3, none⟩ (.bool ((rd_T38 l0 x2000_1).f3))).setCell ⟨gb110, 4, none⟩ (.bool ((rd_T38 l0 x2000_1).f4))).setCell ⟨gb110, 5, none⟩ (.bool ((rd_T38 l0 x2000_1).f5))).setCell ⟨gb110, 6, none⟩ (.bool ((rd_T38 l0 x2000_1).f6))).setCell ⟨gb110, 7, none⟩ (.int .i64 ((rd_T38 l0 x2000_1).f7))) w.heap.size (fun k_ => some k_ ≠ (u9 : Value).ownBlock) u10 x10_1) := ⟨qq9⟩
            have n2_ : Aside0 (((((((((w20.setCell ⟨gb110, 0, none⟩ (.bool (true))).setCell ⟨gb110, 1, none⟩ (.int .i64 ((rd_T38 l0 x2000_1).f1))).setCell ⟨gb110, 2, none⟩ (.slice A109_2 ((rd_T38 l0 x2000_1).f2).length c109_2)).setCell ⟨gb110, 3, none⟩ (.bool ((rd_T38 l0 x2000_1).f3))).setCell ⟨gb110, 4, none⟩ (.bool ((rd_T38 l0 x2000_1).f4))).setCell ⟨gb110, 5, none⟩ (.bool ((rd_T38 l0 x2000_1).f5))).setCell ⟨gb110, 6, none⟩ (.bool ((rd_T38 l0 x2000_1).f6))).setCell ⟨gb110, 7, none⟩ (.int .i64 ((rd_T38 l0 x2000_1).f7))).heap[gb108]? = some (.cells #[.int .i64 t103, .int .i64 t104, .int .i64 t105, .bool t106, .bool t107] 55 (0, 0))) := ⟨by (with_reducible repeat (first | refine blk_drewN ?_ _ | refine blk_drew ?_ | refine blk_alloc ?_ _)); refine blk_far ?_ NB108_110.out _; (with_reducible repeat (first | refine blk_drewN ?_ _ | refine blk_drew ?_ | refine blk_alloc ?_ _)); refine blk_far ?_ NB108_110.out _; (with_reducible repeat (first | refine blk_drewN ?_ _ | refine blk_drew ?_ | refine blk_alloc ?_ _)); refine blk_far ?_ NB108_110.out _; (with_reducible repeat (first | refine blk_drewN ?_ _ | refine blk_drew ?_ | refine blk_alloc ?_ _)); refine blk_far ?_ NB108_110.out _; (with_reducible repeat (first | refine blk_drewN ?_ _ | refine blk_drew ?_ | refine blk_alloc ?_ _)); refine blk_far ?_ NB108_110.out _; (with_reducible repeat (first | refine blk_drewN ?_ _ | refine blk_drew ?_ | refine blk_alloc ?_ _)); refine blk_far ?_ NB108_110.out _; (with_reducible repeat (first | refine blk_drewN ?_ _ | refine blk_drew ?_ | refine blk_alloc ?_ _)); refine blk_far ?_ NB108_110.out _; (with_reducible repeat (first | refine blk_drewN ?_ _ | refine blk_drew ?_ | refine blk_alloc ?_ _)); refine blk_far ?_ NB108_110.out _; (with_reducible repeat (first | refine blk_drewN ?_ _ | refine blk_drew ?_ | refine blk_alloc ?_ _)); exact BK108.out⟩
            have n3_ : Aside0 (((((((((w20.setCell ⟨gb110, 0, none⟩ (.bool (true))).setCell ⟨gb110, 1, none⟩ (.int .i64 ((rd_T38 l0 x2000_1).f1))).setCell ⟨gb110, 2, none⟩ (.slice A109_2 ((rd_T38 l0 x2000_1).f2).length c109_2)).setCell ⟨gb110, 3, none⟩ (.bool ((rd_T38 l0 x2000_1).f3))).setCell ⟨gb110, 4, none⟩ (.bool ((rd_T38 l0 x2000_1).f4))).setCell ⟨gb110, 5, none⟩ (.bool ((rd_T38 l0 x2000_1).f5))).setCell ⟨gb110, 6, none⟩ (.bool ((rd_T38 l0 x2000_1).f6))).setCell ⟨gb110, 7, none⟩ (.int .i64 ((rd_T38 l0 x2000_1).f7))).heap[gb110]? = some (.cells #[.bool true, .int .i64 ((rd_T38 l0 x2000_1).f1), .slice A109_2 ((rd_T38 l0 x2000_1).f2).length c109_2, .bool ((rd_T38 l0 x2000_1).f3), .bool ((rd_T38 l0 x2000_1).f4), .bool ((rd_T38 l0 x2000_1).f5), .bool ((rd_T38 l0 x2000_1).f6), .int .i64 ((rd_T38 l0 x2000_1).f7)] 38 (0, 0))) := ⟨by (with_reducible repeat (first | refine blk_drewN ?_ _ | refine blk_drew ?_ | refine blk_alloc ?_ _)); refine blk_put (cs := #[.bool (true), .int .i64 ((rd_T38 l0 x2000_1).f1), .slice A109_2 ((rd_T38 l0 x2000_1).f2).length c109_2, .bool ((rd_T38 l0 x2000_1).f3), .bool ((rd_T38 l0 x2000_1).f4), .bool ((rd_T38 l0 x2000_1).f5), .bool ((rd_T38 l0 x2000_1).f6), .int .i64 0]) ?_ 7 _ rfl; (with_reducible repeat (first | refine blk_drewN ?_ _ | refine blk_drew ?_ | refine blk_alloc ?_ _)); refine blk_put (cs := #[.bool (true), .int .i64 ((rd_T38 l0 x2000_1).f1), .slice A109_2 ((rd_T38 l0 x2000_1).f2).length c109_2, .bool ((rd_T38 l0 x2000_1).f3), .bool ((rd_T38 l0 x2000_1).f4), .bool ((rd_T38 l0 x2000_1).f5), .bool false, .int .i64 0]) ?_ 6 _ rfl; (with_reducible repeat (first | refine blk_drewN ?_ _ | refine blk_drew ?_ | refine blk_alloc ?_ _)); refine blk_put (cs := #[.bool (true), .int .i64 ((rd_T38 l0 x2000_1).f1), .slice A109_2 ((rd_T38 l0 x2000_1).f2).length c109_2, .bool ((rd_T38 l0 x2000_1).f3), .bool ((rd_T38 l0 x2000_1).f4), .bool false, .bool false, .int .i64 0]) ?_ 5 _ rfl; (with_reducible repeat (first | refine blk_drewN ?_ _ | refine blk_drew ?_ | refine blk_alloc ?_ _)); refine blk_put (cs := #[.bool (true), .int .i64 ((rd_T38 l0 x2000_1).f1), .slice A109_2 ((rd_T38 l0 x2000_1).f2).length c109_2, .bool ((rd_T38 l0 x2000_1).f3), .bool false, .bool false, .bool false, .int .i64 0]) ?_ 4 _ rfl; (with_reducible repeat (first | refine blk_drewN ?_ _ | refine blk_drew ?_ | refine blk_alloc ?_ _)); refine blk_put (cs := #[.bool (true), .int .i64 ((rd_T38 l0 x2000_1).f1), .slice A109_2 ((rd_T38 l0 x2000_1).f2).length c109_2, .bool false, .bool false, .bool false, .bool false, .int .i64 0]) ?_ 3 _ rfl; (with_reducible repeat (first | refine blk_drewN ?_ _ | refine blk_drew ?_ | refine blk_alloc ?_ _)); refine blk_put (cs := #[.bool (true), .int .i64 ((rd_T38 l0 x2000_1).f1), .slice none 0 0, .bool false, .bool false, .bool false, .bool false, .int .i64 0]) ?_ 2 _ rfl; (with_reducible repeat (first | refine blk_drewN ?_ _ | refine blk_drew ?_ | refine blk_alloc ?_ _)); refine blk_put (cs := #[.bool (true), .int .i64 0, .slice none 0 0, .bool false, .bool false, .bool false, .bool false, .int .i64 0]) ?_ 1 _ rfl; (with_reducible repeat (first | refine blk_drewN ?_ _ | refine blk_drew ?_ | refine blk_alloc ?_ _)); refine blk_put (cs := #[.bool false, .int .i64 0, .slice none 0 0, .bool false, .bool false, .bool false, .bool false, .int .i64 0]) ?_ 0 _ rfl; (with_reducible repeat (first | refine blk_drewN ?_ _ | refine blk_drew ?_ | refine blk_alloc ?_ _)); exact BK110.out⟩
            have n4_ : Aside0 (IsS64 w ((((((((w20.setCell ⟨gb110, 0, none⟩ (.bool (true))).setCell ⟨gb110, 1, none⟩ (.int .i64 ((rd_T38 l0 x2000_1).f1))).setCell ⟨gb110, 2, none⟩ (.slice A109_2 ((rd_T38 l0 x2000_1).f2).length c109_2)).setCell ⟨gb110, 3, none⟩ (.bool ((rd_T38 l0 x2000_1).f3))).setCell ⟨gb110, 4, none⟩ (.bool ((rd_T38 l0 x2000_1).f4))).setCell ⟨gb110, 5, none⟩ (.bool ((rd_T38 l0 x2000_1).f5))).setCell ⟨gb110, 6, none⟩ (.bool ((rd_T38 l0 x2000_1).f6))).setCell ⟨gb110, 7, none⟩ (.int .i64 ((rd_T38 l0 x2000_1).f7))) g x2000_1 x2001_1 x2002_1 true x2004_1 x2005_1 x2006_1 x2007_1) := ⟨by repeat (first | (with_reducible first | exact HI1.out | apply IsS64.alloc | apply IsS64.drewN | apply IsS64.drew | apply IsS64.set_0 | apply IsS64.set_1 | apply IsS64.set_2 | apply IsS64.set_3 | apply IsS64.set_4 | apply IsS64.set_5 | apply IsS64.set_6 | apply IsS64.set_7 | refine IsS64.far ?_ NB1_108.out _ | refine IsS64.far ?_ NB1_110.out _) | exact HI1.out)⟩
            have n5_ : Aside0 (KeepBut w ((((((((w20.setCell ⟨gb110, 0, none⟩ (.bool (true))).setCell ⟨gb110, 1, none⟩ (.int .i64 ((rd_T38 l0 x2000_1).f1))).setCell ⟨gb110, 2, none⟩ (.slice A109_2 ((rd_T38 l0 x2000_1).f2).length c109_2)).setCell ⟨gb110, 3, none⟩ (.bool ((rd_T38 l0 x2000_1).f3))).setCell ⟨gb110, 4, none⟩ (.bool ((rd_T38 l0 x2000_1).f4))).setCell ⟨gb110, 5, none⟩ (.bool ((rd_T38 l0 x2000_1).f5))).setCell ⟨gb110, 6, none⟩ (.bool ((rd_T38 l0 x2000_1).f6))).setCell ⟨gb110, 7, none⟩ (.int .i64 ((rd_T38 l0 x2000_1).f7))) g none) := ⟨by repeat (first | (with_reducible first | exact HK.out | apply KeepBut.set_ | apply keep_drewN | apply keep_drew | apply keep_alloc | refine keep_far ?_ GW108.out _ | refine keep_far ?_ GW110.out _) | exact HK.out)⟩
            have n6_ : Aside0 (Below w.heap.size w ((((((((w20.setCell ⟨gb110, 0, none⟩ (.bool (true))).setCell ⟨gb110, 1, none⟩ (.int .i64 ((rd_T38 l0 x2000_1).f1))).setCell ⟨gb110, 2, none⟩ (.slice A109_2 ((rd_T38 l0 x2000_1).f2).length c109_2)).setCell ⟨gb110, 3, none⟩ (.bool ((rd_T38 l0 x2000_1).f3))).setCell ⟨gb110, 4, none⟩ (.bool ((rd_T38 l0 x2000_1).f4))).setCell ⟨gb110, 5, none⟩ (.bool ((rd_T38 l0 x2000_1).f5))).setCell ⟨gb110, 6, none⟩ (.bool ((rd_T38 l0 x2000_1).f6))).setCell ⟨gb110, 7, none⟩ (.int .i64 ((rd_T38 l0 x2000_1).f7)))) := ⟨by repeat (first | (with_reducible first | exact HB.out | apply below_alloc | apply pw_below_drewN | apply below_drew1 | refine below_set ?_ (IsS64.ge HI1.out) | refine below_set ?_ GE108.out | refine below_set ?_ GE110.out) | exact HB.out)⟩
            (try clear HO_9)
            (try clear HO_10)
            (try clear BK108)
            (try clear BK110)
            (try clear HI1)
            (try clear HK)
            (try clear HB)
            generalize ((((((((w20.setCell ⟨gb110, 0, none⟩ (.bool (true))).setCell ⟨gb110, 1, none⟩ (.int .i64 ((rd_T38 l0 x2000_1).f1))).setCell ⟨gb110, 2, none⟩ (.slice A109_2 ((rd_T38 l0 x2000_1).f2).length c109_2)).setCell ⟨gb110, 3, none⟩ (.bool ((rd_T38 l0 x2000_1).f3))).setCell ⟨gb110, 4, none⟩ (.bool ((rd_T38 l0 x2000_1).f4))).setCell ⟨gb110, 5, none⟩ (.bool ((rd_T38 l0 x2000_1).f5))).setCell ⟨gb110, 6, none⟩ (.bool ((rd_T38 l0 x2000_1).f6))).setCell ⟨gb110, 7, none⟩ (.int .i64 ((rd_T38 l0 x2000_1).f7))) = w28 at n0_ n1_ n2_ n3_ n4_ n5_ n6_ ⊢
            have HO_9 := n0_
            have HO_10 := n1_
            have BK108 := n2_
            have BK110 := n3_
            have HI1 := n4_
            have HK := n5_
            have HB := n6_
            clear n0_ n1_ n2_ n3_ n4_ n5_ n6_
            replace HO_9 := Aside0.mk (Kd.R_drew HO_9.out)
            replace HO_10 := Aside0.mk (Kd.R_drew HO_10.out)
            replace BK108 := Aside0.mk (blk_drew BK108.out)
            replace BK110 := Aside0.mk (blk_drew BK110.out)
            replace HI1 := Aside0.mk (IsS64.drew HI1.out)
            replace HK := Aside0.mk (keep_drew HK.out)
            replace HB := Aside0.mk (below_drew1 HB.out)
            refine start_ (n := 25) (S := fun w' => w'.cell? ⟨gb110, 0, none⟩ = some (.bool true) ∧ w'.cell? ⟨gb110, 1, none⟩ = some (.int .i64 ((rd_T38 l0 x2000_1).f1)) ∧ w'.cell? ⟨gb110, 2, none⟩ = some (.slice A109_2 ((rd_T38 l0 x2000_1).f2).length c109_2) ∧ w'.cell? ⟨gb110, 3, none⟩ = some (.bool ((rd_T38 l0 x2000_1).f3)) ∧ w'.cell? ⟨gb110, 4, none⟩ = some (.bool ((rd_T38 l0 x2000_1).f4)) ∧ w'.cell? ⟨gb110, 5, none⟩ = some (.bool ((rd_T38 l0 x2000_1).f5)) ∧ w'.cell? ⟨gb110, 6, none⟩ = some (.bool ((rd_T38 l0 x2000_1).f6)) ∧ w'.cell? ⟨gb110, 7, none⟩ = some (.int .i64 ((rd_T38 l0 x2000_1).f7)) ∧ w'.cell? ⟨g, 0, none⟩ = some (.int .i64 x2000_1) ∧ w'.cell? ⟨g, 1, none⟩ = some (.int .i64 x2001_1) ∧ w'.cell? ⟨g, 2, none⟩ = some (.int .i64 x2002_1) ∧ w'.cell? ⟨g, 3, none⟩ = some (.bool true) ∧ w'.cell? ⟨g, 4, none⟩ = some (.bool x2004_1) ∧ w'.cell? ⟨g, 5, none⟩ = some (.bool x2005_1) ∧ w'.cell? ⟨g, 6, none⟩ = some (.bool x2006_1) ∧ w'.cell? ⟨g, 7, none⟩ = some (.bool x2007_1)) (ds := []) #[false, false, false, false, false, false, false, false, false, false, false, false, false, false, false, false, false, false, false, false, false, false, false, false, false] (by kernel_rfl) rfl rfl ⟨(blk_cell BK110.out 0).trans rfl, (blk_cell BK110.out 1).trans rfl, (blk_cell BK110.out 2).trans rfl, (blk_cell BK110.out 3).trans rfl, (blk_cell BK110.out 4).trans rfl, (blk_cell BK110.out 5).trans rfl, (blk_cell BK110.out 6).trans rfl, (blk_cell BK110.out 7).trans rfl, (cellS64_0 HI1.out.1), (cellS64_1 HI1.out.1), (cellS64_2 HI1.out.1), (cellS64_3 HI1.out.1), (cellS64_4 HI1.out.1), (cellS64_5 HI1.out.1), (cellS64_6 HI1.out.1), (cellS64_7 HI1.out.1)⟩ (fun hHeld => ?_); refine with_tabW partitaref10_walk.tab10 partitaref10_walk.bits10 (fun HT_ HW_ => ?_)
            generalize w28.drew = w29 at HO_9 HO_10 BK108 BK110 HI1 HK HB hHeld ⊢
            refine pureS 0 (some 45) (bs 1 25) ?_
            refine take_ (i := 1) (N := some 46) (v := ?_) (a' := ?_) (bs 3 25) rfl rfl (take_ofW HT_.out HW_.out (by kernel_rfl)) (fun _ _ _ h => h) (Or.inl ⟨by rfl, ?_⟩) hHeld ?_ ?_
            rotate_left
            · rintro w' ⟨s0, s1, s2, s3, s4, s5, s6, s7, s8, s9, s10, s11, s12, s13, s14, s15⟩
              go_simp
              with_reducible rfl
            rotate_left
            · simp only [Act.put, List.setIfInBounds_toArray, List.set_cons_zero, List.set_cons_succ, i64_w, i32_w]
              rfl
            refine pureS 2 (some 47) (bs 7 25) ?_
            refine pureS 3 (some 48) (bs 15 25) ?_
            refine pureS 4 (some 49) (bs 31 25) ?_
            refine pureS 5 (some 50) (bs 63 25) ?_
            refine pureS 7 (some 52) (bs 191 25) ?_
            refine pureS 8 (some 53) (bs 447 25) ?_
            refine pureS 9 (some 54) (bs 959 25) ?_
            refine take_ (i := 6) (N := some 51) (v := ?_) (a' := ?_) (bs 1023 25) rfl rfl (take_ofW HT_.out HW_.out (by kernel_rfl)) (fun _ _ _ h => h) (Or.inl ⟨by rfl, ?_⟩) hHeld ?_ ?_
            rotate_left
            · rintro w' ⟨s0, s1, s2, s3, s4, s5, s6, s7, s8, s9, s10, s11, s12, s13, s14, s15⟩
              go_simp
              with_reducible rfl
            rotate_left
            · simp only [Act.put, List.setIfInBounds_toArray, List.set_cons_zero, List.set_cons_succ, i64_w, i32_w]
              rfl
            refine take_ (i := 10) (N := some 55) (v := ?_) (a' := ?_) (bs 2047 25) rfl rfl (take_ofW HT_.out HW_.out (by kernel_rfl)) (fun _ _ _ h => h) (Or.inl ⟨by rfl, ?_⟩) hHeld ?_ ?_
            rotate_left
            · rintro w' ⟨s0, s1, s2, s3, s4, s5, s6, s7, s8, s9, s10, s11, s12, s13, s14, s15⟩
              go_simp
              with_reducible rfl
            rotate_left
            · simp only [Act.put, List.setIfInBounds_toArray, List.set_cons_zero, List.set_cons_succ, i64_w, i32_w]
              rfl
            refine pureS 11 (some 56) (bs 4095 25) ?_
            refine pureS 12 (some 57) (bs 8191 25) ?_
            refine pureS 13 (some 58) (bs 16383 25) ?_
            refine pureS 14 (some 59) (bs 32767 25) ?_
            refine pureS 15 (some 60) (bs 65535 25) ?_
            refine pureS 16 (some 61) (bs 131071 25) ?_
            refine take_ (i := 17) (N := some 62) (v := ?_) (a' := ?_) (bs 262143 25) rfl rfl (take_ofW HT_.out HW_.out (by kernel_rfl)) (fun _ _ _ h => h) (Or.inl ⟨by rfl, ?_⟩) hHeld ?_ ?_
            rotate_left
            · rintro w' ⟨s0, s1, s2, s3, s4, s5, s6, s7, s8, s9, s10, s11, s12, s13, s14, s15⟩
              go_simp
              with_reducible rfl
            rotate_left
            · simp only [Act.put, List.setIfInBounds_toArray, List.set_cons_zero, List.set_cons_succ, i64_w, i32_w]
              rfl
            refine pureS 18 (some 63) (bs 524287 25) ?_
            refine pureS 19 (some 64) (bs 1048575 25) ?_
            refine take_ (i := 20) (N := some 65) (v := ?_) (a' := ?_) (bs 2097151 25) rfl rfl (take_ofW HT_.out HW_.out (by kernel_rfl)) (fun _ _ _ h => h) (Or.inl ⟨by rfl, ?_⟩) hHeld ?_ ?_
            rotate_left
            · rintro w' ⟨s0, s1, s2, s3, s4, s5, s6, s7, s8, s9, s10, s11, s12, s13, s14, s15⟩
              go_simp
              with_reducible rfl
            rotate_left
            · simp only [Act.put, List.setIfInBounds_toArray, List.set_cons_zero, List.set_cons_succ, i64_w, i32_w]
              rfl
            refine pureS 21 (some 66) (bs 4194303 25) ?_
            refine pureS 22 (some 67) (bs 8388607 25) ?_
            refine pureS 23 (some 68) (bs 16777215 25) ?_
            refine pureS 24 (some 69) (bs 33554431 25) ?_
            refine done_ (done_of HT_.out (by kernel_rfl)) ?_
            try go_wp2
            go_meet
            case rel => (try rw [← Nbq24.out]); exact ⟨_, (((((rd_T38 l0 x2000_1).f2).length : Int) == 0)), qq3, H', ⟨qqB⟩, ⟨qR HO_9.out⟩, ⟨qR HO_10.out⟩, ⟨bq BK108.out⟩, ⟨bq BK110.out⟩, ⟨by repeat (first | (with_reducible first | exact HI1.out | apply IsS64.alloc | apply IsS64.drewN | apply IsS64.drew | apply IsS64.set_0 | apply IsS64.set_1 | apply IsS64.set_2 | apply IsS64.set_3 | apply IsS64.set_4 | apply IsS64.set_5 | apply IsS64.set_6 | apply IsS64.set_7 | refine IsS64.far ?_ NB1_108.out _ | refine IsS64.far ?_ NB1_110.out _) | exact HI1.out)⟩, ⟨by repeat (first | (with_reducible first | exact HK.out | apply KeepBut.set_ | apply keep_drewN | apply keep_drew | apply keep_alloc | refine keep_far ?_ GW108.out _ | refine keep_far ?_ GW110.out _) | exact HK.out)⟩, ⟨by repeat (first | (with_reducible first | exact HB.out | apply below_alloc | apply pw_below_drewN | apply below_drew1 | refine below_set ?_ (IsS64.ge HI1.out) | refine below_set ?_ GE108.out | refine below_set ?_ GE110.out) | exact HB.out)⟩⟩
          case rest =>
            clear HC18
            try clear c1
            try clear c2
            try clear p2
            try clear c3
            try clear c10
            try clear c25
            try clear c34
            obtain ⟨kq, x69_17, rfl, HA, HJ17, HO_9, HO_10, BK108, BK110, HI1, HK, HB⟩ := hcut
            cases kq with
            | zero => exact absurd HA.out (by simp [partitaref10_walk.j2])
            | succ kj17 =>
              have H := HA.out
              clear HA
              simp only [partitaref10_walk.j2] at H
              have HC39 := Aside0.mk H
              clear H
              go_upto_if 69 with (fail)
              go_cut [] (fun wc => ∃ (kq : Nat) (x2000_38 : Int) (x2001_38 : Int) (x2002_38 : Int) (x2003_38 : Bool) (x2004_38 : Bool) (x2005_38 : Bool) (x2006_38 : Bool) (x2007_38 : Bool), Aside0 (partitaref10_walk.j3 kq l0 x9_1 x10_1 x2000_38 x2001_38 x2002_38 x2003_38 x2004_38 x2005_38 x2006_38 x2007_38 t103 t104 t105 t106 t107 ((rd_T38 l0 x2000_1).f0) ((rd_T38 l0 x2000_1).f1) ((rd_T38 l0 x2000_1).f3) ((rd_T38 l0 x2000_1).f4) ((rd_T38 l0 x2000_1).f5) ((rd_T38 l0 x2000_1).f6) ((rd_T38 l0 x2000_1).f7) = some (r1, r2, r3, r4, r5, r6, r7, r8, r9, r10, r11)) ∧ Aside0 (kq ≤ kj17) ∧ Aside0 (Kd.R (Kd.int .i64) 3 wc w.heap.size (fun k_ => some k_ ≠ (u10 : Value).ownBlock) u9 x9_1) ∧ Aside0 (Kd.R (Kd.int .i64) 3 wc w.heap.size (fun k_ => some k_ ≠ (u9 : Value).ownBlock) u10 x10_1) ∧ Aside0 (wc.heap[gb108]? = some (.cells #[.int .i64 t103, .int .i64 t104, .int .i64 t105, .bool t106, .bool t107] 55 (0, 0))) ∧ Aside0 (wc.heap[gb110]? = some (.cells #[.bool ((rd_T38 l0 x2000_1).f0), .int .i64 ((rd_T38 l0 x2000_1).f1), .slice A109_2 ((rd_T38 l0 x2000_1).f2).length c109_2, .bool ((rd_T38 l0 x2000_1).f3), .bool ((rd_T38 l0 x2000_1).f4), .bool ((rd_T38 l0 x2000_1).f5), .bool ((rd_T38 l0 x2000_1).f6), .int .i64 ((rd_T38 l0 x2000_1).f7)] 38 (0, 0))) ∧ Aside0 (IsS64 w wc g x2000_38 x2001_38 x2002_38 x2003_38 x2004_38 x2005_38 x2006_38 x2007_38) ∧ Aside0 (KeepBut w wc g none) ∧ Aside0 (Below w.heap.size w wc))
              case first =>
                have H := HC39.out
                clear HC39
                by_cases c40 : x69_17 = true
                rotate_left
                · replace c40 := Bool.eq_false_iff.mpr c40
                  subst c40
                  have H1 : (partitaref10_walk.j3 kj17 l0 x9_1 x10_1 x2000_1 x2001_1 x2002_1 x2003_1 x2004_1 x2005_1 x2006_1 x2007_1 t103 t104 t105 t106 t107 ((rd_T38 l0 x2000_1).f0) ((rd_T38 l0 x2000_1).f1) ((rd_T38 l0 x2000_1).f3) ((rd_T38 l0 x2000_1).f4) ((rd_T38 l0 x2000_1).f5) ((rd_T38 l0 x2000_1).f6) ((rd_T38 l0 x2000_1).f7)) = some (r1, r2, r3, r4, r5, r6, r7, r8, r9, r10, r11) := by rw [if_neg (show ¬ (false = true) by decide)] at H; exact H
                  clear H
                  have H := H1
                  clear H1
                  have H' := Aside0.mk H
                  clear H
                  go_wp2
                  go_meet
                  case rel => exact ⟨_, (x2000_1), (x2001_1), (x2002_1), (x2003_1), (x2004_1), (x2005_1), (x2006_1), (x2007_1), H', ⟨by have := HK1.out; have := HJ10.out; have := HJ17.out; first | omega | exact Nat.le_refl _⟩, ⟨qR HO_9.out⟩, ⟨qR HO_10.out⟩, ⟨bq BK108.out⟩, ⟨bq BK110.out⟩, ⟨by repeat (first | (with_reducible first | exact HI1.out | apply IsS64.alloc | apply IsS64.drewN | apply IsS64.drew | apply IsS64.set_0 | apply IsS64.set_1 | apply IsS64.set_2 | apply IsS64.set_3 | apply IsS64.set_4 | apply IsS64.set_5 | apply IsS64.set_6 | apply IsS64.set_7 | refine IsS64.far ?_ NB1_108.out _ | refine IsS64.far ?_ NB1_110.out _) | exact HI1.out)⟩, ⟨by repeat (first | (with_reducible first | exact HK.out | apply KeepBut.set_ | apply keep_drewN | apply keep_drew | apply keep_alloc | refine keep_far ?_ GW108.out _ | refine keep_far ?_ GW110.out _) | exact HK.out)⟩, ⟨by repeat (first | (with_reducible first | exact HB.out | apply below_alloc | apply pw_below_drewN | apply below_drew1 | refine below_set ?_ (IsS64.ge HI1.out) | refine below_set ?_ GE108.out | refine below_set ?_ GE110.out) | exact HB.out)⟩⟩
                subst c40
                have H1 : ((partitaref10_Walk_goTo.f x2000_1 x2001_1 x2002_1 x2003_1 x2004_1 x2005_1 x2006_1 x2007_1 x2000_1).bind fun bt111 => (partitaref10_walk.j3 kj17 l0 x9_1 x10_1 bt111.1 bt111.2.1 bt111.2.2.1 bt111.2.2.2.1 bt111.2.2.2.2.1 bt111.2.2.2.2.2.1 bt111.2.2.2.2.2.2.1 bt111.2.2.2.2.2.2.2 t103 t104 t105 t106 t107 ((rd_T38 l0 x2000_1).f0) ((rd_T38 l0 x2000_1).f1) ((rd_T38 l0 x2000_1).f3) ((rd_T38 l0 x2000_1).f4) ((rd_T38 l0 x2000_1).f5) ((rd_T38 l0 x2000_1).f6) ((rd_T38 l0 x2000_1).f7))) = some (r1, r2, r3, r4, r5, r6, r7, r8, r9, r10, r11) := by rw [if_pos rfl] at H; exact H
                clear H
                have H := H1
                clear H1
                replace H := Option.bind_eq_some_iff.mp H
                obtain ⟨⟨t111, t112, t113, t114, t115, t116, t117, t118⟩, A410, H⟩ := H
                try dsimp -simprocs only at H
                have A41 := Aside0.mk A410
                clear A410
                have H' := Aside0.mk H
                clear H
                have hz42 := cells8 HI1.out.1
                go_wp2_with (first | ((with_reducible refine gate_callee (f := 43) rfl ?_); refine goesL_ (some 75) rfl rfl Try.func43 (by kernel_rfl) rfl #[.pointer (some ⟨g, 0, none⟩), .int .i64 x2000_1] rfl qq1 ?_; (with_reducible refine (partitaref10_Walk_goTo.calls g x2000_1 x2001_1 x2002_1 x2003_1 x2004_1 x2005_1 x2006_1 x2007_1 x2000_1 t111 t112 t113 t114 t115 t116 t117 t118 w _ ?side1 ?side2 A41.out).mono ?_); (case side1 => repeat (first | (with_reducible first | exact HI1.out | apply IsS64.alloc | apply IsS64.drewN | apply IsS64.drew | apply IsS64.set_0 | apply IsS64.set_1 | apply IsS64.set_2 | apply IsS64.set_3 | apply IsS64.set_4 | apply IsS64.set_5 | apply IsS64.set_6 | apply IsS64.set_7 | refine IsS64.far ?_ NB1_108.out _ | refine IsS64.far ?_ NB1_110.out _) | exact HI1.out)); (case side2 => repeat (first | (with_reducible first | exact HB.out | apply below_alloc | apply pw_below_drewN | apply below_drew1 | refine below_set ?_ (IsS64.ge HI1.out) | refine below_set ?_ GE108.out | refine below_set ?_ GE110.out) | exact HB.out)); rintro e w43 ⟨rfl, hi, hb, hk⟩; refine ⟨_, rfl, ?_⟩; replace HO_9 := Aside0.mk (Kd.R_mono (Kd.R_keep (IsS64.apart (show IsS64 w _ g x2000_1 x2001_1 x2002_1 x2003_1 x2004_1 x2005_1 x2006_1 x2007_1 from by repeat (first | (with_reducible first | exact HI1.out | apply IsS64.alloc | apply IsS64.drewN | apply IsS64.drew | apply IsS64.set_0 | apply IsS64.set_1 | apply IsS64.set_2 | apply IsS64.set_3 | apply IsS64.set_4 | apply IsS64.set_5 | apply IsS64.set_6 | apply IsS64.set_7 | refine IsS64.far ?_ NB1_108.out _ | refine IsS64.far ?_ NB1_110.out _) | exact HI1.out)) (qR HO_9.out) (by decide)) hk (fun _ h => h.2)) (fun _ h => h.1)); replace HO_10 := Aside0.mk (Kd.R_mono (Kd.R_keep (IsS64.apart (show IsS64 w _ g x2000_1 x2001_1 x2002_1 x2003_1 x2004_1 x2005_1 x2006_1 x2007_1 from by repeat (first | (with_reducible first | exact HI1.out | apply IsS64.alloc | apply IsS64.drewN | apply IsS64.drew | apply IsS64.set_0 | apply IsS64.set_1 | apply IsS64.set_2 | apply IsS64.set_3 | apply IsS64.set_4 | apply IsS64.set_5 | apply IsS64.set_6 | apply IsS64.set_7 | refine IsS64.far ?_ NB1_108.out _ | refine IsS64.far ?_ NB1_110.out _) | exact HI1.out)) (qR HO_10.out) (by decide)) hk (fun _ h => h.2)) (fun _ h => h.1)); replace BK108 := Aside0.mk (KeepBut.blk hk (g' := gb108) (o := .cells #[.int .i64 t103, .int .i64 t104, .int .i64 t105, .bool t106, .bool t107] 55 (0, 0)) (bq BK108.out) NB108_1.out (by simp)); replace BK110 := Aside0.mk (KeepBut.blk hk (g' := gb110) (o := .cells #[.bool ((rd_T38 l0 x2000_1).f0), .int .i64 ((rd_T38 l0 x2000_1).f1), .slice A109_2 ((rd_T38 l0 x2000_1).f2).length c109_2, .bool ((rd_T38 l0 x2000_1).f3), .bool ((rd_T38 l0 x2000_1).f4), .bool ((rd_T38 l0 x2000_1).f5), .bool ((rd_T38 l0 x2000_1).f6), .int .i64 ((rd_T38 l0 x2000_1).f7)] 38 (0, 0)) (bq BK110.out) NB110_1.out (by simp)); replace HK := Aside0.mk (KeepBut.trans (by repeat (first | (with_reducible first | exact HK.out | apply KeepBut.set_ | apply keep_drewN | apply keep_drew | apply keep_alloc | refine keep_far ?_ GW108.out _ | refine keep_far ?_ GW110.out _) | exact HK.out)) hk (.inl rfl)); replace HB := Aside0.mk (hb); replace HI1 := Aside0.mk (hi); (try clear hb); (try clear hb2); (try clear hk); (try clear hi)))
                go_meet
                case rel => exact ⟨_, (t111), (t112), (t113), (t114), (t115), (t116), (t117), (t118), H', ⟨by have := HK1.out; have := HJ10.out; have := HJ17.out; first | omega | exact Nat.le_refl _⟩, ⟨qR HO_9.out⟩, ⟨qR HO_10.out⟩, ⟨bq BK108.out⟩, ⟨bq BK110.out⟩, ⟨by repeat (first | (with_reducible first | exact HI1.out | apply IsS64.alloc | apply IsS64.drewN | apply IsS64.drew | apply IsS64.set_0 | apply IsS64.set_1 | apply IsS64.set_2 | apply IsS64.set_3 | apply IsS64.set_4 | apply IsS64.set_5 | apply IsS64.set_6 | apply IsS64.set_7 | refine IsS64.far ?_ NB1_108.out _ | refine IsS64.far ?_ NB1_110.out _) | exact HI1.out)⟩, ⟨by repeat (first | (with_reducible first | exact HK.out | apply KeepBut.set_ | apply keep_drewN | apply keep_drew | apply keep_alloc | refine keep_far ?_ GW108.out _ | refine keep_far ?_ GW110.out _) | exact HK.out)⟩, ⟨by repeat (first | (with_reducible first | exact HB.out | apply below_alloc | apply pw_below_drewN | apply below_drew1 | refine below_set ?_ (IsS64.ge HI1.out) | refine below_set ?_ GE108.out | refine below_set ?_ GE110.out) | exact HB.out)⟩⟩
              case rest =>
                clear HC39
                try clear c1
                try clear c2
                try clear p2
                try clear c3
                try clear c4
                try clear c10
                try clear c25
                try clear c34
                try clear c40
                try clear c43
                try clear p2
                obtain ⟨kq, x2000_38, x2001_38, x2002_38, x2003_38, x2004_38, x2005_38, x2006_38, x2007_38, HA, HJ38, HO_9, HO_10, BK108, BK110, HI1, HK, HB⟩ := hcut
                cases kq with
                | zero => exact absurd HA.out (by simp [partitaref10_walk.j3])
                | succ kj38 =>
                  have H := HA.out
                  clear HA
                  simp only [partitaref10_walk.j3] at H
                  replace H := Option.bind_eq_some_iff.mp H
                  obtain ⟨⟨t119, t120, t121, t122, t123, t124, t125, t126, t127⟩, A440, H⟩ := H
                  try dsimp -simprocs only at H
                  have A44 := Aside0.mk A440
                  clear A440
                  by_cases c45 : t119 = true
                  · subst c45
                    have H1 : (if (x9_1.length : Int) = 2000 then (some (([] : List Int), ([] : List Int), 101, t120, t121, t122, t123, t124, t125, t126, t127)) else (if x9_1.length < 17592186044416 then (if x10_1.length < 17592186044416 then ((partitaref10_Walk_on.f kj38 t120 t121 t122 t123 t124 t125 t126 t127 l0 t103 t104 t105 t106 t107).bind fun bt134 => (partitaref10_walk.l0 kj38 l0 (x9_1 ++ [t120]) (x10_1 ++ [t121]) bt134.1 bt134.2.1 bt134.2.2.1 bt134.2.2.2.1 bt134.2.2.2.2.1 bt134.2.2.2.2.2.1 bt134.2.2.2.2.2.2.1 bt134.2.2.2.2.2.2.2 t103 t104 t105 t106 t107)) else (none)) else (none))) = some (r1, r2, r3, r4, r5, r6, r7, r8, r9, r10, r11) := by rw [if_pos rfl] at H; exact H
                    clear H
                    have H := H1
                    clear H1
                    by_cases c46 : (x9_1.length : Int) = 2000
                    · rw [if_pos c46] at H
                      have c46b0 : ((x9_1.length : Int) == 2000) = true := beq_iff_eq.mpr c46
                      have c46b1 : ((x9_1.length : Int) != 2000) = false := bne_eq_false_iff_eq.mpr c46
                      clear c46
                      simp only [Option.some.injEq, Prod.mk.injEq] at H
                      obtain ⟨rfl, rfl, rfl, rfl, rfl, rfl, rfl, rfl, rfl, rfl, rfl⟩ := H
                      go_wp2_with (first | ((with_reducible refine gate_callee (f := 44) rfl ?_); refine goesL_ (some 78) rfl rfl Try.func44 (by kernel_rfl) rfl #[.pointer (some ⟨g, 0, none⟩), .slice (some ad109) l0.length c0] rfl qq1 ?_; (with_reducible refine (partitaref10_Walk_stands.calls kj38 g x2000_38 x2001_38 x2002_38 x2003_38 x2004_38 x2005_38 x2006_38 x2007_38 _ _ l0 true t120 t121 t122 t123 t124 t125 t126 t127 w _ ?side1 ?side2 ?side3 ?side4 A44.out).mono ?_); (case side1 => repeat (first | (with_reducible first | exact HI1.out | apply IsS64.alloc | apply IsS64.drewN | apply IsS64.drew | apply IsS64.set_0 | apply IsS64.set_1 | apply IsS64.set_2 | apply IsS64.set_3 | apply IsS64.set_4 | apply IsS64.set_5 | apply IsS64.set_6 | apply IsS64.set_7 | refine IsS64.far ?_ NB1_108.out _ | refine IsS64.far ?_ NB1_110.out _) | exact HI1.out)); (case side2 => repeat (first | (with_reducible first | exact HB.out | apply below_alloc | apply pw_below_drewN | apply below_drew1 | refine below_set ?_ (IsS64.ge HI1.out) | refine below_set ?_ GE108.out | refine below_set ?_ GE110.out) | exact HB.out)); (case side3 => exact Kd.C_foot_step HR0.out (by repeat (first | (with_reducible first | exact HK.out | apply KeepBut.set_ | apply keep_drewN | apply keep_drew | apply keep_alloc | refine keep_far ?_ GW108.out _ | refine keep_far ?_ GW110.out _) | exact HK.out))); (case side4 => exact HC0.out); rintro e w47 ⟨rfl, hi, hb, hk⟩; refine ⟨_, rfl, ?_⟩; replace HO_9 := Aside0.mk (Kd.R_mono (Kd.R_keep (IsS64.apart (show IsS64 w _ g x2000_38 x2001_38 x2002_38 x2003_38 x2004_38 x2005_38 x2006_38 x2007_38 from by repeat (first | (with_reducible first | exact HI1.out | apply IsS64.alloc | apply IsS64.drewN | apply IsS64.drew | apply IsS64.set_0 | apply IsS64.set_1 | apply IsS64.set_2 | apply IsS64.set_3 | apply IsS64.set_4 | apply IsS64.set_5 | apply IsS64.set_6 | apply IsS64.set_7 | refine IsS64.far ?_ NB1_108.out _ | refine IsS64.far ?_ NB1_110.out _) | exact HI1.out)) (qR HO_9.out) (by decide)) hk (fun _ h => h.2)) (fun _ h => h.1)); replace HO_10 := Aside0.mk (Kd.R_mono (Kd.R_keep (IsS64.apart (show IsS64 w _ g x2000_38 x2001_38 x2002_38 x2003_38 x2004_38 x2005_38 x2006_38 x2007_38 from by repeat (first | (with_reducible first | exact HI1.out | apply IsS64.alloc | apply IsS64.drewN | apply IsS64.drew | apply IsS64.set_0 | apply IsS64.set_1 | apply IsS64.set_2 | apply IsS64.set_3 | apply IsS64.set_4 | apply IsS64.set_5 | apply IsS64.set_6 | apply IsS64.set_7 | refine IsS64.far ?_ NB1_108.out _ | refine IsS64.far ?_ NB1_110.out _) | exact HI1.out)) (qR HO_10.out) (by decide)) hk (fun _ h => h.2)) (fun _ h => h.1)); replace BK108 := Aside0.mk (KeepBut.blk hk (g' := gb108) (o := .cells #[.int .i64 t103, .int .i64 t104, .int .i64 t105, .bool t106, .bool t107] 55 (0, 0)) (bq BK108.out) NB108_1.out (by simp)); replace BK110 := Aside0.mk (KeepBut.blk hk (g' := gb110) (o := .cells #[.bool ((rd_T38 l0 x2000_1).f0), .int .i64 ((rd_T38 l0 x2000_1).f1), .slice A109_2 ((rd_T38 l0 x2000_1).f2).length c109_2, .bool ((rd_T38 l0 x2000_1).f3), .bool ((rd_T38 l0 x2000_1).f4), .bool ((rd_T38 l0 x2000_1).f5), .bool ((rd_T38 l0 x2000_1).f6), .int .i64 ((rd_T38 l0 x2000_1).f7)] 38 (0, 0)) (bq BK110.out) NB110_1.out (by simp)); replace HK := Aside0.mk (KeepBut.trans (by repeat (first | (with_reducible first | exact HK.out | apply KeepBut.set_ | apply keep_drewN | apply keep_drew | apply keep_alloc | refine keep_far ?_ GW108.out _ | refine keep_far ?_ GW110.out _) | exact HK.out)) hk (.inl rfl)); replace HB := Aside0.mk (hb); replace HI1 := Aside0.mk (hi); (try clear hb); (try clear hb2); (try clear hk); (try clear hi); obtain ⟨Ao48, co48, eo48⟩ := Kd.R_slice HO_9.out; subst eo48))
                      go_ret3
                      exact ⟨_, _, qq2, qqb, qqb, by repeat (first | (with_reducible first | exact HB.out | apply below_alloc | apply pw_below_drewN | apply below_drew1 | refine below_set ?_ (IsS64.ge HI1.out) | refine below_set ?_ GE108.out | refine below_set ?_ GE110.out) | exact HB.out)⟩
                    rw [if_neg c46] at H
                    have c46b0 : ((x9_1.length : Int) == 2000) = false := beq_eq_false_iff_ne.mpr c46
                    have c46b1 : ((x9_1.length : Int) != 2000) = true := bne_iff_ne.mpr c46
                    by_cases c49 : x9_1.length < 17592186044416
                    rotate_left
                    · rw [if_neg c49] at H
                      exact absurd H (by simp)
                    rw [if_pos c49] at H
                    have LMc49 := Aside0.mk c49
                    clear c49
                    obtain ⟨y128, hy128⟩ : ∃ y_ : List Int, y_ = (x9_1 ++ [t120]) := ⟨_, rfl⟩
                    replace H : (if x10_1.length < 17592186044416 then ((partitaref10_Walk_on.f kj38 t120 t121 t122 t123 t124 t125 t126 t127 l0 t103 t104 t105 t106 t107).bind fun bt134 => (partitaref10_walk.l0 kj38 l0 y128 (x10_1 ++ [t121]) bt134.1 bt134.2.1 bt134.2.2.1 bt134.2.2.2.1 bt134.2.2.2.2.1 bt134.2.2.2.2.2.1 bt134.2.2.2.2.2.2.1 bt134.2.2.2.2.2.2.2 t103 t104 t105 t106 t107)) else (none)) = some (r1, r2, r3, r4, r5, r6, r7, r8, r9, r10, r11) := by first | (rw [hy128]; with_reducible exact H) | (have H2_ := (Option.bind_some _ _).symm.trans H; rw [hy128]; with_reducible exact H2_) | (have H2_ := (Option.bind_some _ _).symm.trans H; with_reducible exact H2_) | with_reducible exact H | (rw [hy128]; exact H) | exact H
                    have Ny128 := Aside0.mk hy128
                    clear hy128
                    by_cases c50 : x10_1.length < 17592186044416
                    rotate_left
                    · rw [if_neg c50] at H
                      exact absurd H (by simp)
                    rw [if_pos c50] at H
                    have LMc50 := Aside0.mk c50
                    clear c50
                    obtain ⟨y131, hy131⟩ : ∃ y_ : List Int, y_ = (x10_1 ++ [t121]) := ⟨_, rfl⟩
                    replace H : ((partitaref10_Walk_on.f kj38 t120 t121 t122 t123 t124 t125 t126 t127 l0 t103 t104 t105 t106 t107).bind fun bt134 => (partitaref10_walk.l0 kj38 l0 y128 y131 bt134.1 bt134.2.1 bt134.2.2.1 bt134.2.2.2.1 bt134.2.2.2.2.1 bt134.2.2.2.2.2.1 bt134.2.2.2.2.2.2.1 bt134.2.2.2.2.2.2.2 t103 t104 t105 t106 t107)) = some (r1, r2, r3, r4, r5, r6, r7, r8, r9, r10, r11) := by first | (rw [hy131]; with_reducible exact H) | (have H2_ := (Option.bind_some _ _).symm.trans H; rw [hy131]; with_reducible exact H2_) | (have H2_ := (Option.bind_some _ _).symm.trans H; with_reducible exact H2_) | with_reducible exact H | (rw [hy131]; exact H) | exact H
                    have Ny131 := Aside0.mk hy131
                    clear hy131
                    replace H := Option.bind_eq_some_iff.mp H
                    obtain ⟨⟨t134, t135, t136, t137, t138, t139, t140, t141⟩, A510, H⟩ := H
                    try dsimp -simprocs only at H
                    have A51 := Aside0.mk A510
                    clear A510
                    have H' := Aside0.mk H
                    clear H
                    go_wp2_with (first | ((with_reducible refine gate_callee (f := 44) rfl ?_); refine goesL_ (some 78) rfl rfl Try.func44 (by kernel_rfl) rfl #[.pointer (some ⟨g, 0, none⟩), .slice (some ad109) l0.length c0] rfl qq1 ?_; (with_reducible refine (partitaref10_Walk_stands.calls kj38 g x2000_38 x2001_38 x2002_38 x2003_38 x2004_38 x2005_38 x2006_38 x2007_38 _ _ l0 true t120 t121 t122 t123 t124 t125 t126 t127 w _ ?side1 ?side2 ?side3 ?side4 A44.out).mono ?_); (case side1 => repeat (first | (with_reducible first | exact HI1.out | apply IsS64.alloc | apply IsS64.drewN | apply IsS64.drew | apply IsS64.set_0 | apply IsS64.set_1 | apply IsS64.set_2 | apply IsS64.set_3 | apply IsS64.set_4 | apply IsS64.set_5 | apply IsS64.set_6 | apply IsS64.set_7 | refine IsS64.far ?_ NB1_108.out _ | refine IsS64.far ?_ NB1_110.out _) | exact HI1.out)); (case side2 => repeat (first | (with_reducible first | exact HB.out | apply below_alloc | apply pw_below_drewN | apply below_drew1 | refine below_set ?_ (IsS64.ge HI1.out) | refine below_set ?_ GE108.out | refine below_set ?_ GE110.out) | exact HB.out)); (case side3 => exact Kd.C_foot_step HR0.out (by repeat (first | (with_reducible first | exact HK.out | apply KeepBut.set_ | apply keep_drewN | apply keep_drew | apply keep_alloc | refine keep_far ?_ GW108.out _ | refine keep_far ?_ GW110.out _) | exact HK.out))); (case side4 => exact HC0.out); rintro e w52 ⟨rfl, hi, hb, hk⟩; refine ⟨_, rfl, ?_⟩; replace HO_9 := Aside0.mk (Kd.R_mono (Kd.R_keep (IsS64.apart (show IsS64 w _ g x2000_38 x2001_38 x2002_38 x2003_38 x2004_38 x2005_38 x2006_38 x2007_38 from by repeat (first | (with_reducible first | exact HI1.out | apply IsS64.alloc | apply IsS64.drewN | apply IsS64.drew | apply IsS64.set_0 | apply IsS64.set_1 | apply IsS64.set_2 | apply IsS64.set_3 | apply IsS64.set_4 | apply IsS64.set_5 | apply IsS64.set_6 | apply IsS64.set_7 | refine IsS64.far ?_ NB1_108.out _ | refine IsS64.far ?_ NB1_110.out _) | exact HI1.out)) (qR HO_9.out) (by decide)) hk (fun _ h => h.2)) (fun _ h => h.1)); replace HO_10 := Aside0.mk (Kd.R_mono (Kd.R_keep (IsS64.apart (show IsS64 w _ g x2000_38 x2001_38 x2002_38 x2003_38 x2004_38 x2005_38 x2006_38 x2007_38 from by repeat (first | (with_reducible first | exact HI1.out | apply IsS64.alloc | apply IsS64.drewN | apply IsS64.drew | apply IsS64.set_0 | apply IsS64.set_1 | apply IsS64.set_2 | apply IsS64.set_3 | apply IsS64.set_4 | apply IsS64.set_5 | apply IsS64.set_6 | apply IsS64.set_7 | refine IsS64.far ?_ NB1_108.out _ | refine IsS64.far ?_ NB1_110.out _) | exact HI1.out)) (qR HO_10.out) (by decide)) hk (fun _ h => h.2)) (fun _ h => h.1)); replace BK108 := Aside0.mk (KeepBut.blk hk (g' := gb108) (o := .cells #[.int .i64 t103, .int .i64 t104, .int .i64 t105, .bool t106, .bool t107] 55 (0, 0)) (bq BK108.out) NB108_1.out (by simp)); replace BK110 := Aside0.mk (KeepBut.blk hk (g' := gb110) (o := .cells #[.bool ((rd_T38 l0 x2000_1).f0), .int .i64 ((rd_T38 l0 x2000_1).f1), .slice A109_2 ((rd_T38 l0 x2000_1).f2).length c109_2, .bool ((rd_T38 l0 x2000_1).f3), .bool ((rd_T38 l0 x2000_1).f4), .bool ((rd_T38 l0 x2000_1).f5), .bool ((rd_T38 l0 x2000_1).f6), .int .i64 ((rd_T38 l0 x2000_1).f7)] 38 (0, 0)) (bq BK110.out) NB110_1.out (by simp)); replace HK := Aside0.mk (KeepBut.trans (by repeat (first | (with_reducible first | exact HK.out | apply KeepBut.set_ | apply keep_drewN | apply keep_drew | apply keep_alloc | refine keep_far ?_ GW108.out _ | refine keep_far ?_ GW110.out _) | exact HK.out)) hk (.inl rfl)); replace HB := Aside0.mk (hb); replace HI1 := Aside0.mk (hi); (try clear hb); (try clear hb2); (try clear hk); (try clear hi); obtain ⟨Ao53, co53, eo53⟩ := Kd.R_slice HO_9.out; subst eo53; have hz54 := cells8 HI1.out.1) | ((with_reducible refine gate_builtin (b := .append) (xs := #[.tmp 117, .tmp 122]) rfl ?_); (try (refine gate_guard (by rfl) ?_; dsimp only)); at_builtin; refine Kd.R_append (Kd.int .i64) w.heap.size rfl (.tmp 117) (.tmp 122) 31 3 (.int .i64 0) 8 rfl Try.underlying31 info3 rfl (by decide) (by omega) (.slice Ao53 x9_1.length co53) x9_1 t120 [.int .i64 t120] (fun k_ => some k_ ≠ (u10 : Value).ownBlock) (fun _ => False) rfl rfl ?aP (fun _ hk => hk.elim) ?aF ?aO (Below.refl _ _) ?aS ?aL ?_; (case aP => exact rfl); (case aF => exact (fun k_ hk => Kd.fresh' (Kd.R_lt (qR HO_10.out)) k_ hk)); (case aO => exact (qR HO_9.out)); (case aS => exact (keep_size (w := w) (g := g) (row := none) (by repeat (first | (with_reducible first | exact HK.out | apply KeepBut.set_ | apply keep_drewN | apply keep_drew | apply keep_alloc | refine keep_far ?_ GW108.out _ | refine keep_far ?_ GW110.out _) | exact HK.out)))); (case aL => have := LMc49.out; omega); intro v129 w55 ho hb hg hat; rw [← Ny128.out] at ho; replace HO_10 := Aside0.mk (Kd.R_after (ok := (fun _ => True)) (by (with_reducible repeat (first | apply Kd.R_alloc | apply Kd.R_drewN | apply Kd.R_drew)); exact Kd.R_mono HO_10.out (fun _ hk => ⟨trivial, hk⟩)) hg hat); replace BK108 := Aside0.mk (blk_grown (bq BK108.out) hg (Kd.R_ne HO_9.out BK108.out (by decide))); replace BK110 := Aside0.mk (blk_grown (bq BK110.out) hg (Kd.R_ne HO_9.out BK110.out (by decide))); replace HB := Aside0.mk (below_weaken (by repeat (first | (with_reducible first | exact HB.out | apply below_alloc | apply pw_below_drewN | apply below_drew1 | refine below_set ?_ (IsS64.ge HI1.out) | refine below_set ?_ GE108.out | refine below_set ?_ GE110.out) | exact HB.out)) HL.out hb); replace HI1 := Aside0.mk (IsS64.grown (by repeat (first | (with_reducible first | exact HI1.out | apply IsS64.alloc | apply IsS64.drewN | apply IsS64.drew | apply IsS64.set_0 | apply IsS64.set_1 | apply IsS64.set_2 | apply IsS64.set_3 | apply IsS64.set_4 | apply IsS64.set_5 | apply IsS64.set_6 | apply IsS64.set_7 | refine IsS64.far ?_ NB1_108.out _ | refine IsS64.far ?_ NB1_110.out _) | exact HI1.out)) hg (IsS64.own_ne HI1.out HO_9.out (by decide))); replace HK := Aside0.mk (KeepBut.trans (by repeat (first | (with_reducible first | exact HK.out | apply KeepBut.set_ | apply keep_drewN | apply keep_drew | apply keep_alloc | refine keep_far ?_ GW108.out _ | refine keep_far ?_ GW110.out _) | exact HK.out)) (KeepBut.of_grown hg g) (Kd.R_base2 HO_9.out)); have HO130 := Aside0.mk (ho); clear HO_9; clear ho hb hg hat; have hz56 := cells8 HI1.out.1) | ((with_reducible refine gate_builtin (b := .append) (xs := #[.tmp 124, .tmp 129]) rfl ?_); (try (refine gate_guard (by rfl) ?_; dsimp only)); at_builtin; refine Kd.R_append (Kd.int .i64) w.heap.size rfl (.tmp 124) (.tmp 129) 31 3 (.int .i64 0) 8 rfl Try.underlying31 info3 rfl (by decide) (by omega) u10 x10_1 t121 [.int .i64 t121] (fun k_ => some k_ ≠ (v129 : Value).ownBlock) (fun _ => False) rfl rfl ?aP (fun _ hk => hk.elim) ?aF ?aO (Below.refl _ _) ?aS ?aL ?_; (case aP => exact rfl); (case aF => exact (fun k_ hk => Kd.fresh' (Kd.R_lt (qR HO130.out)) k_ hk)); (case aO => exact (by (with_reducible repeat (first | apply Kd.R_alloc | apply Kd.R_drewN | apply Kd.R_drew)); exact Kd.R_mono HO_10.out (fun _ hk => hk.2))); (case aS => exact (keep_size (w := w) (g := g) (row := none) (by repeat (first | (with_reducible first | exact HK.out | apply KeepBut.set_ | apply keep_drewN | apply keep_drew | apply keep_alloc | refine keep_far ?_ GW108.out _ | refine keep_far ?_ GW110.out _) | exact HK.out)))); (case aL => have := LMc50.out; omega); intro v132 w57 ho hb hg hat; rw [← Ny131.out] at ho; replace BK108 := Aside0.mk (blk_grown (bq BK108.out) hg (Kd.R_ne HO_10.out BK108.out (by decide))); replace BK110 := Aside0.mk (blk_grown (bq BK110.out) hg (Kd.R_ne HO_10.out BK110.out (by decide))); replace HO130 := Aside0.mk (Kd.R_after (ok := (fun _ => True)) (by (with_reducible repeat (first | apply Kd.R_alloc | apply Kd.R_drewN | apply Kd.R_drew)); exact Kd.R_mono HO130.out (fun _ hk => ⟨trivial, hk⟩)) hg hat); replace HB := Aside0.mk (below_weaken (by repeat (first | (with_reducible first | exact HB.out | apply below_alloc | apply pw_below_drewN | apply below_drew1 | refine below_set ?_ (IsS64.ge HI1.out) | refine below_set ?_ GE108.out | refine below_set ?_ GE110.out) | exact HB.out)) HL.out hb); replace HI1 := Aside0.mk (IsS64.grown (by repeat (first | (with_reducible first | exact HI1.out | apply IsS64.alloc | apply IsS64.drewN | apply IsS64.drew | apply IsS64.set_0 | apply IsS64.set_1 | apply IsS64.set_2 | apply IsS64.set_3 | apply IsS64.set_4 | apply IsS64.set_5 | apply IsS64.set_6 | apply IsS64.set_7 | refine IsS64.far ?_ NB1_108.out _ | refine IsS64.far ?_ NB1_110.out _) | exact HI1.out)) hg (IsS64.own_ne HI1.out HO_10.out (by decide))); replace HK := Aside0.mk (KeepBut.trans (by repeat (first | (with_reducible first | exact HK.out | apply KeepBut.set_ | apply keep_drewN | apply keep_drew | apply keep_alloc | refine keep_far ?_ GW108.out _ | refine keep_far ?_ GW110.out _) | exact HK.out)) (KeepBut.of_grown hg g) (Kd.R_base2 HO_10.out)); have HO133 := Aside0.mk (ho); clear HO_10; clear ho hb hg hat; have hnb58 := NB108_110.out; have hnc58 := NB110_108.out; have hnb59 := NB108_1.out; have hnc59 := NB1_108.out; have hz60 := cells5 BK108.out) | ((with_reducible refine gate_callee (f := 45) rfl ?_); refine goesL_ (some 134) rfl rfl Try.func45 (by kernel_rfl) rfl #[.pointer (some ⟨g, 0, none⟩), .slice (some ad109) l0.length c0, .agg #[.int .i64 t103, .int .i64 t104, .int .i64 t105, .bool t106, .bool t107]] rfl qq1 ?_; (with_reducible refine (partitaref10_Walk_on.calls kj38 g t120 t121 t122 t123 t124 t125 t126 t127 _ _ l0 t103 t104 t105 t106 t107 t134 t135 t136 t137 t138 t139 t140 t141 w _ ?side1 ?side2 ?side3 ?side4 A51.out).mono ?_); (case side1 => repeat (first | (with_reducible first | exact HI1.out | apply IsS64.alloc | apply IsS64.drewN | apply IsS64.drew | apply IsS64.set_0 | apply IsS64.set_1 | apply IsS64.set_2 | apply IsS64.set_3 | apply IsS64.set_4 | apply IsS64.set_5 | apply IsS64.set_6 | apply IsS64.set_7 | refine IsS64.far ?_ NB1_108.out _ | refine IsS64.far ?_ NB1_110.out _) | exact HI1.out)); (case side2 => repeat (first | (with_reducible first | exact HB.out | apply below_alloc | apply pw_below_drewN | apply below_drew1 | refine below_set ?_ (IsS64.ge HI1.out) | refine below_set ?_ GE108.out | refine below_set ?_ GE110.out) | exact HB.out)); (case side3 => exact Kd.C_foot_step HR0.out (by repeat (first | (with_reducible first | exact HK.out | apply KeepBut.set_ | apply keep_drewN | apply keep_drew | apply keep_alloc | refine keep_far ?_ GW108.out _ | refine keep_far ?_ GW110.out _) | exact HK.out))); (case side4 => exact HC0.out); rintro e w61 ⟨rfl, hi, hb, hk⟩; refine ⟨_, rfl, ?_⟩; replace BK108 := Aside0.mk (KeepBut.blk hk (g' := gb108) (o := .cells #[.int .i64 t103, .int .i64 t104, .int .i64 t105, .bool t106, .bool t107] 55 (0, 0)) (bq BK108.out) NB108_1.out (by simp)); replace BK110 := Aside0.mk (KeepBut.blk hk (g' := gb110) (o := .cells #[.bool ((rd_T38 l0 x2000_1).f0), .int .i64 ((rd_T38 l0 x2000_1).f1), .slice A109_2 ((rd_T38 l0 x2000_1).f2).length c109_2, .bool ((rd_T38 l0 x2000_1).f3), .bool ((rd_T38 l0 x2000_1).f4), .bool ((rd_T38 l0 x2000_1).f5), .bool ((rd_T38 l0 x2000_1).f6), .int .i64 ((rd_T38 l0 x2000_1).f7)] 38 (0, 0)) (bq BK110.out) NB110_1.out (by simp)); replace HO130 := Aside0.mk (Kd.R_mono (Kd.R_keep (IsS64.apart (show IsS64 w _ g t120 t121 t122 t123 t124 t125 t126 t127 from by repeat (first | (with_reducible first | exact HI1.out | apply IsS64.alloc | apply IsS64.drewN | apply IsS64.drew | apply IsS64.set_0 | apply IsS64.set_1 | apply IsS64.set_2 | apply IsS64.set_3 | apply IsS64.set_4 | apply IsS64.set_5 | apply IsS64.set_6 | apply IsS64.set_7 | refine IsS64.far ?_ NB1_108.out _ | refine IsS64.far ?_ NB1_110.out _) | exact HI1.out)) (qR HO130.out) (by decide)) hk (fun _ h => h.2)) (fun _ h => h.1)); replace HO133 := Aside0.mk (Kd.R_mono (Kd.R_keep (IsS64.apart (show IsS64 w _ g t120 t121 t122 t123 t124 t125 t126 t127 from by repeat (first | (with_reducible first | exact HI1.out | apply IsS64.alloc | apply IsS64.drewN | apply IsS64.drew | apply IsS64.set_0 | apply IsS64.set_1 | apply IsS64.set_2 | apply IsS64.set_3 | apply IsS64.set_4 | apply IsS64.set_5 | apply IsS64.set_6 | apply IsS64.set_7 | refine IsS64.far ?_ NB1_108.out _ | refine IsS64.far ?_ NB1_110.out _) | exact HI1.out)) (qR HO133.out) (by decide)) hk (fun _ h => h.2)) (fun _ h => h.1)); replace HK := Aside0.mk (KeepBut.trans (by repeat (first | (with_reducible first | exact HK.out | apply KeepBut.set_ | apply keep_drewN | apply keep_drew | apply keep_alloc | refine keep_far ?_ GW108.out _ | refine keep_far ?_ GW110.out _) | exact HK.out)) hk (.inl rfl)); replace HB := Aside0.mk (hb); replace HI1 := Aside0.mk (hi); (try clear hb); (try clear hb2); (try clear hk); (try clear hi)))
                    go_roundg kj38
                    case measure => have := HK1.out; have := HJ10.out; have := HJ17.out; have := HJ38.out; omega
                    case rel => exact ⟨(y128), (y131), (t134), (t135), (t136), (t137), (t138), (t139), (t140), (t141), H', ⟨qqt⟩, ⟨qR (Kd.R_mono HO130.out (fun _ hk => hk.2))⟩, ⟨qR HO133.out⟩, ⟨bq BK108.out⟩, ⟨by repeat (first | (with_reducible first | exact HI1.out | apply IsS64.alloc | apply IsS64.drewN | apply IsS64.drew | apply IsS64.set_0 | apply IsS64.set_1 | apply IsS64.set_2 | apply IsS64.set_3 | apply IsS64.set_4 | apply IsS64.set_5 | apply IsS64.set_6 | apply IsS64.set_7 | refine IsS64.far ?_ NB1_108.out _ | refine IsS64.far ?_ NB1_110.out _) | exact HI1.out)⟩, ⟨by repeat (first | (with_reducible first | exact HK.out | apply KeepBut.set_ | apply keep_drewN | apply keep_drew | apply keep_alloc | refine keep_far ?_ GW108.out _ | refine keep_far ?_ GW110.out _) | exact HK.out)⟩, ⟨by repeat (first | (with_reducible first | exact HB.out | apply below_alloc | apply pw_below_drewN | apply below_drew1 | refine below_set ?_ (IsS64.ge HI1.out) | refine below_set ?_ GE108.out | refine below_set ?_ GE110.out) | exact HB.out)⟩⟩
                  replace c45 := Bool.eq_false_iff.mpr c45
                  subst c45
                  have H1 : (if t123 = true then (partitaref10_walk.l0 kj38 l0 x9_1 x10_1 (wrap64 (t120 + 1)) t121 t122 true t124 t125 t126 t127 t103 t104 t105 t106 t107) else (if t124 = true then (partitaref10_walk.l0 kj38 l0 x9_1 x10_1 (wrap64 (t120 + 1)) t121 t122 true t124 t125 t126 t127 t103 t104 t105 t106 t107) else (if ((rd_T38 l0 x2000_1).f1) > 0 then (partitaref10_walk.l0 kj38 l0 x9_1 x10_1 (wrap64 (t120 + 1)) t121 t122 (decide (t121 ≥ ((rd_T38 l0 x2000_1).f1))) t124 t125 t126 t127 t103 t104 t105 t106 t107) else (partitaref10_walk.l0 kj38 l0 x9_1 x10_1 (wrap64 (t120 + 1)) t121 t122 false t124 t125 t126 t127 t103 t104 t105 t106 t107)))) = some (r1, r2, r3, r4, r5, r6, r7, r8, r9, r10, r11) := by rw [if_neg (show ¬ (false = true) by decide)] at H; exact H
                  clear H
                  have H := H1
                  clear H1
                  by_cases c62 : t123 = true
                  · subst c62
                    have H1 : (partitaref10_walk.l0 kj38 l0 x9_1 x10_1 (wrap64 (t120 + 1)) t121 t122 true t124 t125 t126 t127 t103 t104 t105 t106 t107) = some (r1, r2, r3, r4, r5, r6, r7, r8, r9, r10, r11) := by rw [if_pos rfl] at H; exact H
                    clear H
                    have H := H1
                    clear H1
                    have H' := Aside0.mk H
                    clear H
                    try go_wp2_with (first | ((with_reducible refine gate_callee (f := 44) rfl ?_); refine goesL_ (some 78) rfl rfl Try.func44 (by kernel_rfl) rfl #[.pointer (some ⟨g, 0, none⟩), .slice (some ad109) l0.length c0] rfl qq1 ?_; (with_reducible refine (partitaref10_Walk_stands.calls kj38 g x2000_38 x2001_38 x2002_38 x2003_38 x2004_38 x2005_38 x2006_38 x2007_38 _ _ l0 false t120 t121 t122 true t124 t125 t126 t127 w _ ?side1 ?side2 ?side3 ?side4 A44.out).mono ?_); (case side1 => repeat (first | (with_reducible first | exact HI1.out | apply IsS64.alloc | apply IsS64.drewN | apply IsS64.drew | apply IsS64.set_0 | apply IsS64.set_1 | apply IsS64.set_2 | apply IsS64.set_3 | apply IsS64.set_4 | apply IsS64.set_5 | apply IsS64.set_6 | apply IsS64.set_7 | refine IsS64.far ?_ NB1_108.out _ | refine IsS64.far ?_ NB1_110.out _) | exact HI1.out)); (case side2 => repeat (first | (with_reducible first | exact HB.out | apply below_alloc | apply pw_below_drewN | apply below_drew1 | refine below_set ?_ (IsS64.ge HI1.out) | refine below_set ?_ GE108.out | refine below_set ?_ GE110.out) | exact HB.out)); (case side3 => exact Kd.C_foot_step HR0.out (by repeat (first | (with_reducible first | exact HK.out | apply KeepBut.set_ | apply keep_drewN | apply keep_drew | apply keep_alloc | refine keep_far ?_ GW108.out _ | refine keep_far ?_ GW110.out _) | exact HK.out))); (case side4 => exact HC0.out); rintro e w63 ⟨rfl, hi, hb, hk⟩; refine ⟨_, rfl, ?_⟩; replace HO_9 := Aside0.mk (Kd.R_mono (Kd.R_keep (IsS64.apart (show IsS64 w _ g x2000_38 x2001_38 x2002_38 x2003_38 x2004_38 x2005_38 x2006_38 x2007_38 from by repeat (first | (with_reducible first | exact HI1.out | apply IsS64.alloc | apply IsS64.drewN | apply IsS64.drew | apply IsS64.set_0 | apply IsS64.set_1 | apply IsS64.set_2 | apply IsS64.set_3 | apply IsS64.set_4 | apply IsS64.set_5 | apply IsS64.set_6 | apply IsS64.set_7 | refine IsS64.far ?_ NB1_108.out _ | refine IsS64.far ?_ NB1_110.out _) | exact HI1.out)) (qR HO_9.out) (by decide)) hk (fun _ h => h.2)) (fun _ h => h.1)); replace HO_10 := Aside0.mk (Kd.R_mono (Kd.R_keep (IsS64.apart (show IsS64 w _ g x2000_38 x2001_38 x2002_38 x2003_38 x2004_38 x2005_38 x2006_38 x2007_38 from by repeat (first | (with_reducible first | exact HI1.out | apply IsS64.alloc | apply IsS64.drewN | apply IsS64.drew | apply IsS64.set_0 | apply IsS64.set_1 | apply IsS64.set_2 | apply IsS64.set_3 | apply IsS64.set_4 | apply IsS64.set_5 | apply IsS64.set_6 | apply IsS64.set_7 | refine IsS64.far ?_ NB1_108.out _ | refine IsS64.far ?_ NB1_110.out _) | exact HI1.out)) (qR HO_10.out) (by decide)) hk (fun _ h => h.2)) (fun _ h => h.1)); replace BK108 := Aside0.mk (KeepBut.blk hk (g' := gb108) (o := .cells #[.int .i64 t103, .int .i64 t104, .int .i64 t105, .bool t106, .bool t107] 55 (0, 0)) (bq BK108.out) NB108_1.out (by simp)); replace BK110 := Aside0.mk (KeepBut.blk hk (g' := gb110) (o := .cells #[.bool ((rd_T38 l0 x2000_1).f0), .int .i64 ((rd_T38 l0 x2000_1).f1), .slice A109_2 ((rd_T38 l0 x2000_1).f2).length c109_2, .bool ((rd_T38 l0 x2000_1).f3), .bool ((rd_T38 l0 x2000_1).f4), .bool ((rd_T38 l0 x2000_1).f5), .bool ((rd_T38 l0 x2000_1).f6), .int .i64 ((rd_T38 l0 x2000_1).f7)] 38 (0, 0)) (bq BK110.out) NB110_1.out (by simp)); replace HK := Aside0.mk (KeepBut.trans (by repeat (first | (with_reducible first | exact HK.out | apply KeepBut.set_ | apply keep_drewN | apply keep_drew | apply keep_alloc | refine keep_far ?_ GW108.out _ | refine keep_far ?_ GW110.out _) | exact HK.out)) hk (.inl rfl)); replace HB := Aside0.mk (hb); replace HI1 := Aside0.mk (hi); (try clear hb); (try clear hb2); (try clear hk); (try clear hi)))
                    replace HO_9 := Aside0.mk (Kd.R_drew HO_9.out)
                    replace HO_10 := Aside0.mk (Kd.R_drew HO_10.out)
                    replace BK108 := Aside0.mk (blk_drew BK108.out)
                    replace BK110 := Aside0.mk (blk_drew BK110.out)
                    replace HI1 := Aside0.mk (IsS64.drew HI1.out)
                    replace HK := Aside0.mk (keep_drew HK.out)
                    replace HB := Aside0.mk (below_drew1 HB.out)
                    refine start_ (n := 28) (S := fun w' => w'.cell? ⟨g, 0, none⟩ = some (.int .i64 t120) ∧ w'.cell? ⟨g, 1, none⟩ = some (.int .i64 t121) ∧ w'.cell? ⟨g, 2, none⟩ = some (.int .i64 t122) ∧ w'.cell? ⟨g, 3, none⟩ = some (.bool true) ∧ w'.cell? ⟨g, 4, none⟩ = some (.bool t124) ∧ w'.cell? ⟨g, 5, none⟩ = some (.bool t125) ∧ w'.cell? ⟨g, 6, none⟩ = some (.bool t126) ∧ w'.cell? ⟨g, 7, none⟩ = some (.bool t127)) (ds := [27]) #[false, false, false, false, false, false, false, false, false, false, false, false, false, false, false, false, false, false, false, false, false, false, false, false, false, false, false, false] (by kernel_rfl) rfl rfl ⟨(cellS64_0 HI1.out.1), (cellS64_1 HI1.out.1), (cellS64_2 HI1.out.1), (cellS64_3 HI1.out.1), (cellS64_4 HI1.out.1), (cellS64_5 HI1.out.1), (cellS64_6 HI1.out.1), (cellS64_7 HI1.out.1)⟩ (fun hHeld => ?_); refine with_tabW partitaref10_walk.tab13 partitaref10_walk.bits13 (fun HT_ HW_ => ?_)
                    generalize w63.drew = w64 at HO_9 HO_10 BK108 BK110 HI1 HK HB hHeld ⊢
                    refine pureS 0 (some 80) (bs 1 28) ?_
                    refine pureS 1 (some 81) (bs 3 28) ?_
                    refine pureS 2 (some 82) (bs 7 28) ?_
                    refine pureS 3 (some 83) (bs 15 28) ?_
                    refine take_ (i := 4) (N := some 84) (v := ?_) (a' := ?_) (bs 31 28) rfl rfl (take_ofW HT_.out HW_.out (by kernel_rfl)) (fun _ _ _ h => h) (Or.inl ⟨by rfl, ?_⟩) hHeld ?_ ?_
                    rotate_left
                    · rintro w' ⟨s0, s1, s2, s3, s4, s5, s6, s7⟩
                      go_simp
                      with_reducible rfl
                    rotate_left
                    · simp only [Act.put, List.setIfInBounds_toArray, List.set_cons_zero, List.set_cons_succ, i64_w, i32_w]
                      rfl
                    refine pureS 5 (some 85) (bs 63 28) ?_
                    refine pure_ (i := 6) (N := some 86) (v := undef) (a' := ?_) (bs 127 28) rfl rfl (any_of HT_.out (by kernel_rfl)) (fun _ _ _ h => h) (Or.inr ⟨by rfl, rfl⟩) ?_ ?_
                    rotate_left
                    · simp only [Act.put, List.setIfInBounds_toArray, List.set_cons_zero, List.set_cons_succ, i64_w, i32_w]
                      rfl
                    refine pure_ (i := 7) (N := some 87) (v := undef) (a' := ?_) (bs 255 28) rfl rfl (any_of HT_.out (by kernel_rfl)) (fun _ _ _ h => h) (Or.inr ⟨by rfl, rfl⟩) ?_ ?_
                    rotate_left
                    · simp only [Act.put, List.setIfInBounds_toArray, List.set_cons_zero, List.set_cons_succ, i64_w, i32_w]
                      rfl
                    refine pure_ (i := 8) (N := some 88) (v := undef) (a' := ?_) (bs 511 28) rfl rfl (any_of HT_.out (by kernel_rfl)) (fun _ _ _ h => h) (Or.inr ⟨by rfl, rfl⟩) ?_ ?_
                    rotate_left
                    · simp only [Act.put, List.setIfInBounds_toArray, List.set_cons_zero, List.set_cons_succ, i64_w, i32_w]
                      rfl
                    refine pure_ (i := 9) (N := some 89) (v := undef) (a' := ?_) (bs 1023 28) rfl rfl (any_of HT_.out (by kernel_rfl)) (fun _ _ _ h => h) (Or.inr ⟨by rfl, rfl⟩) ?_ ?_
                    rotate_left
                    · simp only [Act.put, List.setIfInBounds_toArray, List.set_cons_zero, List.set_cons_succ, i64_w, i32_w]
                      rfl
                    refine pureS 10 (some 90) (bs 2047 28) ?_
                    refine pureS 11 (some 91) (bs 4095 28) ?_
                    refine pure_ (i := 12) (N := some 92) (v := undef) (a' := ?_) (bs 8191 28) rfl rfl (any_of HT_.out (by kernel_rfl)) (fun _ _ _ h => h) (Or.inr ⟨by rfl, rfl⟩) ?_ ?_
                    rotate_left
                    · simp only [Act.put, List.setIfInBounds_toArray, List.set_cons_zero, List.set_cons_succ, i64_w, i32_w]
                      rfl
                    refine pure_ (i := 13) (N := some 93) (v := undef) (a' := ?_) (bs 16383 28) rfl rfl (any_of HT_.out (by kernel_rfl)) (fun _ _ _ h => h) (Or.inr ⟨by rfl, rfl⟩) ?_ ?_
                    rotate_left
                    · simp only [Act.put, List.setIfInBounds_toArray, List.set_cons_zero, List.set_cons_succ, i64_w, i32_w]
                      rfl
                    refine pure_ (i := 14) (N := some 94) (v := undef) (a' := ?_) (bs 32767 28) rfl rfl (any_of HT_.out (by kernel_rfl)) (fun _ _ _ h => h) (Or.inr ⟨by rfl, rfl⟩) ?_ ?_
                    rotate_left
                    · simp only [Act.put, List.setIfInBounds_toArray, List.set_cons_zero, List.set_cons_succ, i64_w, i32_w]
                      rfl
                    refine pure_ (i := 15) (N := some 95) (v := undef) (a' := ?_) (bs 65535 28) rfl rfl (any_of HT_.out (by kernel_rfl)) (fun _ _ _ h => h) (Or.inr ⟨by rfl, rfl⟩) ?_ ?_
                    rotate_left
                    · simp only [Act.put, List.setIfInBounds_toArray, List.set_cons_zero, List.set_cons_succ, i64_w, i32_w]
                      rfl
                    refine pure_ (i := 16) (N := some 96) (v := undef) (a' := ?_) (bs 131071 28) rfl rfl (any_of HT_.out (by kernel_rfl)) (fun _ _ _ h => h) (Or.inr ⟨by rfl, rfl⟩) ?_ ?_
                    rotate_left
                    · simp only [Act.put, List.setIfInBounds_toArray, List.set_cons_zero, List.set_cons_succ, i64_w, i32_w]
                      rfl
                    refine pure_ (i := 17) (N := some 97) (v := undef) (a' := ?_) (bs 262143 28) rfl rfl (any_of HT_.out (by kernel_rfl)) (fun _ _ _ h => h) (Or.inr ⟨by rfl, rfl⟩) ?_ ?_
                    rotate_left
                    · simp only [Act.put, List.setIfInBounds_toArray, List.set_cons_zero, List.set_cons_succ, i64_w, i32_w]
                      rfl
                    refine pure_ (i := 18) (N := some 98) (v := undef) (a' := ?_) (bs 524287 28) rfl rfl (any_of HT_.out (by kernel_rfl)) (fun _ _ _ h => h) (Or.inr ⟨by rfl, rfl⟩) ?_ ?_
                    rotate_left
                    · simp only [Act.put, List.setIfInBounds_toArray, List.set_cons_zero, List.set_cons_succ, i64_w, i32_w]
                      rfl
                    refine pure_ (i := 19) (N := some 99) (v := undef) (a' := ?_) (bs 1048575 28) rfl rfl (any_of HT_.out (by kernel_rfl)) (fun _ _ _ h => h) (Or.inr ⟨by rfl, rfl⟩) ?_ ?_
                    rotate_left
                    · simp only [Act.put, List.setIfInBounds_toArray, List.set_cons_zero, List.set_cons_succ, i64_w, i32_w]
                      rfl
                    refine pure_ (i := 20) (N := some 100) (v := undef) (a' := ?_) (bs 2097151 28) rfl rfl (any_of HT_.out (by kernel_rfl)) (fun _ _ _ h => h) (Or.inr ⟨by rfl, rfl⟩) ?_ ?_
                    rotate_left
                    · simp only [Act.put, List.setIfInBounds_toArray, List.set_cons_zero, List.set_cons_succ, i64_w, i32_w]
                      rfl
                    refine pure_ (i := 21) (N := some 101) (v := undef) (a' := ?_) (bs 4194303 28) rfl rfl (any_of HT_.out (by kernel_rfl)) (fun _ _ _ h => h) (Or.inr ⟨by rfl, rfl⟩) ?_ ?_
                    rotate_left
                    · simp only [Act.put, List.setIfInBounds_toArray, List.set_cons_zero, List.set_cons_succ, i64_w, i32_w]
                      rfl
                    refine pure_ (i := 22) (N := some 102) (v := undef) (a' := ?_) (bs 8388607 28) rfl rfl (any_of HT_.out (by kernel_rfl)) (fun _ _ _ h => h) (Or.inr ⟨by rfl, rfl⟩) ?_ ?_
                    rotate_left
                    · simp only [Act.put, List.setIfInBounds_toArray, List.set_cons_zero, List.set_cons_succ, i64_w, i32_w]
                      rfl
                    refine pure_ (i := 23) (N := some 103) (v := undef) (a' := ?_) (bs 16777215 28) rfl rfl (any_of HT_.out (by kernel_rfl)) (fun _ _ _ h => h) (Or.inr ⟨by rfl, rfl⟩) ?_ ?_
                    rotate_left
                    · simp only [Act.put, List.setIfInBounds_toArray, List.set_cons_zero, List.set_cons_succ, i64_w, i32_w]
                      rfl
                    refine pureS 24 (some 104) (bs 33554431 28) ?_
                    refine pureS 25 (some 105) (bs 67108863 28) ?_
                    refine pureS 26 (some 106) (bs 134217727 28) ?_
                    refine last_ (i := 27) (N := none) (bs 268435455 28) rfl rfl (one_of HT_.out (by kernel_rfl)) (by decide) (fun K hK => ?_)
                    refine skip_ (w1 := ?_) (by rfl) rfl ?_ ?_
                    rotate_left
                    · have hfz_ := blk_frozen HI1.out.1 3
                      go_simp
                      rfl
                    refine hK.out _ _ ?_
                    clear hK K
                    refine done_ (done_of HT_.out (by kernel_rfl)) ?_
                    have hz65 := cells8 HI1.out.1
                    try go_wp2
                    go_roundg kj38
                    case measure => have := HK1.out; have := HJ10.out; have := HJ17.out; have := HJ38.out; omega
                    case rel => exact ⟨(x9_1), (x10_1), (wrap64 (t120 + 1)), (t121), (t122), (true), (t124), (t125), (t126), (t127), H', ⟨qqt⟩, ⟨qqs⟩, ⟨qqr⟩, ⟨by (with_reducible repeat (first | refine blk_drewN ?_ _ | refine blk_drew ?_ | refine blk_alloc ?_ _)); refine blk_far ?_ NB108_1.out _; (with_reducible repeat (first | refine blk_drewN ?_ _ | refine blk_drew ?_ | refine blk_alloc ?_ _)); refine blk_far ?_ NB108_1.out _; (with_reducible repeat (first | refine blk_drewN ?_ _ | refine blk_drew ?_ | refine blk_alloc ?_ _)); exact BK108.out⟩, ⟨by repeat (first | (with_reducible first | exact HI1.out | apply IsS64.alloc | apply IsS64.drewN | apply IsS64.drew | apply IsS64.set_0 | apply IsS64.set_1 | apply IsS64.set_2 | apply IsS64.set_3 | apply IsS64.set_4 | apply IsS64.set_5 | apply IsS64.set_6 | apply IsS64.set_7 | refine IsS64.far ?_ NB1_108.out _ | refine IsS64.far ?_ NB1_110.out _) | exact HI1.out)⟩, ⟨by repeat (first | (with_reducible first | exact HK.out | apply KeepBut.set_ | apply keep_drewN | apply keep_drew | apply keep_alloc | refine keep_far ?_ GW108.out _ | refine keep_far ?_ GW110.out _) | exact HK.out)⟩, ⟨by repeat (first | (with_reducible first | exact HB.out | apply below_alloc | apply pw_below_drewN | apply below_drew1 | refine below_set ?_ (IsS64.ge HI1.out) | refine below_set ?_ GE108.out | refine below_set ?_ GE110.out) | exact HB.out)⟩⟩
                  replace c62 := Bool.eq_false_iff.mpr c62
                  subst c62
                  have H1 : (if t124 = true then (partitaref10_walk.l0 kj38 l0 x9_1 x10_1 (wrap64 (t120 + 1)) t121 t122 true t124 t125 t126 t127 t103 t104 t105 t106 t107) else (if ((rd_T38 l0 x2000_1).f1) > 0 then (partitaref10_walk.l0 kj38 l0 x9_1 x10_1 (wrap64 (t120 + 1)) t121 t122 (decide (t121 ≥ ((rd_T38 l0 x2000_1).f1))) t124 t125 t126 t127 t103 t104 t105 t106 t107) else (partitaref10_walk.l0 kj38 l0 x9_1 x10_1 (wrap64 (t120 + 1)) t121 t122 false t124 t125 t126 t127 t103 t104 t105 t106 t107))) = some (r1, r2, r3, r4, r5, r6, r7, r8, r9, r10, r11) := by rw [if_neg (show ¬ (false = true) by decide)] at H; exact H
                  clear H
                  have H := H1
                  clear H1
                  by_cases c66 : t124 = true
                  · subst c66
                    have H1 : (partitaref10_walk.l0 kj38 l0 x9_1 x10_1 (wrap64 (t120 + 1)) t121 t122 true true t125 t126 t127 t103 t104 t105 t106 t107) = some (r1, r2, r3, r4, r5, r6, r7, r8, r9, r10, r11) := by rw [if_pos rfl] at H; exact H
                    clear H
                    have H := H1
                    clear H1
                    have H' := Aside0.mk H
                    clear H
                    try go_wp2_with (first | ((with_reducible refine gate_callee (f := 44) rfl ?_); refine goesL_ (some 78) rfl rfl Try.func44 (by kernel_rfl) rfl #[.pointer (some ⟨g, 0, none⟩), .slice (some ad109) l0.length c0] rfl qq1 ?_; (with_reducible refine (partitaref10_Walk_stands.calls kj38 g x2000_38 x2001_38 x2002_38 x2003_38 x2004_38 x2005_38 x2006_38 x2007_38 _ _ l0 false t120 t121 t122 false true t125 t126 t127 w _ ?side1 ?side2 ?side3 ?side4 A44.out).mono ?_); (case side1 => repeat (first | (with_reducible first | exact HI1.out | apply IsS64.alloc | apply IsS64.drewN | apply IsS64.drew | apply IsS64.set_0 | apply IsS64.set_1 | apply IsS64.set_2 | apply IsS64.set_3 | apply IsS64.set_4 | apply IsS64.set_5 | apply IsS64.set_6 | apply IsS64.set_7 | refine IsS64.far ?_ NB1_108.out _ | refine IsS64.far ?_ NB1_110.out _) | exact HI1.out)); (case side2 => repeat (first | (with_reducible first | exact HB.out | apply below_alloc | apply pw_below_drewN | apply below_drew1 | refine below_set ?_ (IsS64.ge HI1.out) | refine below_set ?_ GE108.out | refine below_set ?_ GE110.out) | exact HB.out)); (case side3 => exact Kd.C_foot_step HR0.out (by repeat (first | (with_reducible first | exact HK.out | apply KeepBut.set_ | apply keep_drewN | apply keep_drew | apply keep_alloc | refine keep_far ?_ GW108.out _ | refine keep_far ?_ GW110.out _) | exact HK.out))); (case side4 => exact HC0.out); rintro e w67 ⟨rfl, hi, hb, hk⟩; refine ⟨_, rfl, ?_⟩; replace HO_9 := Aside0.mk (Kd.R_mono (Kd.R_keep (IsS64.apart (show IsS64 w _ g x2000_38 x2001_38 x2002_38 x2003_38 x2004_38 x2005_38 x2006_38 x2007_38 from by repeat (first | (with_reducible first | exact HI1.out | apply IsS64.alloc | apply IsS64.drewN | apply IsS64.drew | apply IsS64.set_0 | apply IsS64.set_1 | apply IsS64.set_2 | apply IsS64.set_3 | apply IsS64.set_4 | apply IsS64.set_5 | apply IsS64.set_6 | apply IsS64.set_7 | refine IsS64.far ?_ NB1_108.out _ | refine IsS64.far ?_ NB1_110.out _) | exact HI1.out)) (qR HO_9.out) (by decide)) hk (fun _ h => h.2)) (fun _ h => h.1)); replace HO_10 := Aside0.mk (Kd.R_mono (Kd.R_keep (IsS64.apart (show IsS64 w _ g x2000_38 x2001_38 x2002_38 x2003_38 x2004_38 x2005_38 x2006_38 x2007_38 from by repeat (first | (with_reducible first | exact HI1.out | apply IsS64.alloc | apply IsS64.drewN | apply IsS64.drew | apply IsS64.set_0 | apply IsS64.set_1 | apply IsS64.set_2 | apply IsS64.set_3 | apply IsS64.set_4 | apply IsS64.set_5 | apply IsS64.set_6 | apply IsS64.set_7 | refine IsS64.far ?_ NB1_108.out _ | refine IsS64.far ?_ NB1_110.out _) | exact HI1.out)) (qR HO_10.out) (by decide)) hk (fun _ h => h.2)) (fun _ h => h.1)); replace BK108 := Aside0.mk (KeepBut.blk hk (g' := gb108) (o := .cells #[.int .i64 t103, .int .i64 t104, .int .i64 t105, .bool t106, .bool t107] 55 (0, 0)) (bq BK108.out) NB108_1.out (by simp)); replace BK110 := Aside0.mk (KeepBut.blk hk (g' := gb110) (o := .cells #[.bool ((rd_T38 l0 x2000_1).f0), .int .i64 ((rd_T38 l0 x2000_1).f1), .slice A109_2 ((rd_T38 l0 x2000_1).f2).length c109_2, .bool ((rd_T38 l0 x2000_1).f3), .bool ((rd_T38 l0 x2000_1).f4), .bool ((rd_T38 l0 x2000_1).f5), .bool ((rd_T38 l0 x2000_1).f6), .int .i64 ((rd_T38 l0 x2000_1).f7)] 38 (0, 0)) (bq BK110.out) NB110_1.out (by simp)); replace HK := Aside0.mk (KeepBut.trans (by repeat (first | (with_reducible first | exact HK.out | apply KeepBut.set_ | apply keep_drewN | apply keep_drew | apply keep_alloc | refine keep_far ?_ GW108.out _ | refine keep_far ?_ GW110.out _) | exact HK.out)) hk (.inl rfl)); replace HB := Aside0.mk (hb); replace HI1 := Aside0.mk (hi); (try clear hb); (try clear hb2); (try clear hk); (try clear hi)))
                    replace HO_9 := Aside0.mk (Kd.R_drew HO_9.out)
                    replace HO_10 := Aside0.mk (Kd.R_drew HO_10.out)
                    replace BK108 := Aside0.mk (blk_drew BK108.out)
                    replace BK110 := Aside0.mk (blk_drew BK110.out)
                    replace HI1 := Aside0.mk (IsS64.drew HI1.out)
                    replace HK := Aside0.mk (keep_drew HK.out)
                    replace HB := Aside0.mk (below_drew1 HB.out)
                    refine start_ (n := 28) (S := fun w' => w'.cell? ⟨g, 0, none⟩ = some (.int .i64 t120) ∧ w'.cell? ⟨g, 1, none⟩ = some (.int .i64 t121) ∧ w'.cell? ⟨g, 2, none⟩ = some (.int .i64 t122) ∧ w'.cell? ⟨g, 3, none⟩ = some (.bool false) ∧ w'.cell? ⟨g, 4, none⟩ = some (.bool true) ∧ w'.cell? ⟨g, 5, none⟩ = some (.bool t125) ∧ w'.cell? ⟨g, 6, none⟩ = some (.bool t126) ∧ w'.cell? ⟨g, 7, none⟩ = some (.bool t127)) (ds := [27]) #[false, false, false, false, false, false, false, false, false, false, false, false, false, false, false, false, false, false, false, false, false, false, false, false, false, false, false, false] (by kernel_rfl) rfl rfl ⟨(cellS64_0 HI1.out.1), (cellS64_1 HI1.out.1), (cellS64_2 HI1.out.1), (cellS64_3 HI1.out.1), (cellS64_4 HI1.out.1), (cellS64_5 HI1.out.1), (cellS64_6 HI1.out.1), (cellS64_7 HI1.out.1)⟩ (fun hHeld => ?_); refine with_tabW partitaref10_walk.tab13 partitaref10_walk.bits13 (fun HT_ HW_ => ?_)
                    generalize w67.drew = w68 at HO_9 HO_10 BK108 BK110 HI1 HK HB hHeld ⊢
                    refine pureS 0 (some 80) (bs 1 28) ?_
                    refine pureS 1 (some 81) (bs 3 28) ?_
                    refine pureS 2 (some 82) (bs 7 28) ?_
                    refine pureS 3 (some 83) (bs 15 28) ?_
                    refine take_ (i := 4) (N := some 84) (v := ?_) (a' := ?_) (bs 31 28) rfl rfl (take_ofW HT_.out HW_.out (by kernel_rfl)) (fun _ _ _ h => h) (Or.inl ⟨by rfl, ?_⟩) hHeld ?_ ?_
                    rotate_left
                    · rintro w' ⟨s0, s1, s2, s3, s4, s5, s6, s7⟩
                      go_simp
                      with_reducible rfl
                    rotate_left
                    · simp only [Act.put, List.setIfInBounds_toArray, List.set_cons_zero, List.set_cons_succ, i64_w, i32_w]
                      rfl
                    refine pureS 5 (some 85) (bs 63 28) ?_
                    refine pureS 6 (some 86) (bs 127 28) ?_
                    refine pureS 7 (some 87) (bs 255 28) ?_
                    refine pureS 8 (some 88) (bs 511 28) ?_
                    refine take_ (i := 9) (N := some 89) (v := ?_) (a' := ?_) (bs 1023 28) rfl rfl (take_ofW HT_.out HW_.out (by kernel_rfl)) (fun _ _ _ h => h) (Or.inl ⟨by rfl, ?_⟩) hHeld ?_ ?_
                    rotate_left
                    · rintro w' ⟨s0, s1, s2, s3, s4, s5, s6, s7⟩
                      go_simp
                      with_reducible rfl
                    rotate_left
                    · simp only [Act.put, List.setIfInBounds_toArray, List.set_cons_zero, List.set_cons_succ, i64_w, i32_w]
                      rfl
                    refine pureS 10 (some 90) (bs 2047 28) ?_
                    refine pureS 11 (some 91) (bs 4095 28) ?_
                    refine pure_ (i := 12) (N := some 92) (v := undef) (a' := ?_) (bs 8191 28) rfl rfl (any_of HT_.out (by kernel_rfl)) (fun _ _ _ h => h) (Or.inr ⟨by rfl, rfl⟩) ?_ ?_
                    rotate_left
                    · simp only [Act.put, List.setIfInBounds_toArray, List.set_cons_zero, List.set_cons_succ, i64_w, i32_w]
                      rfl
                    refine pure_ (i := 13) (N := some 93) (v := undef) (a' := ?_) (bs 16383 28) rfl rfl (any_of HT_.out (by kernel_rfl)) (fun _ _ _ h => h) (Or.inr ⟨by rfl, rfl⟩) ?_ ?_
                    rotate_left
                    · simp only [Act.put, List.setIfInBounds_toArray, List.set_cons_zero, List.set_cons_succ, i64_w, i32_w]
                      rfl
                    refine pure_ (i := 14) (N := some 94) (v := undef) (a' := ?_) (bs 32767 28) rfl rfl (any_of HT_.out (by kernel_rfl)) (fun _ _ _ h => h) (Or.inr ⟨by rfl, rfl⟩) ?_ ?_
                    rotate_left
                    · simp only [Act.put, List.setIfInBounds_toArray, List.set_cons_zero, List.set_cons_succ, i64_w, i32_w]
                      rfl
                    refine pure_ (i := 15) (N := some 95) (v := undef) (a' := ?_) (bs 65535 28) rfl rfl (any_of HT_.out (by kernel_rfl)) (fun _ _ _ h => h) (Or.inr ⟨by rfl, rfl⟩) ?_ ?_
                    rotate_left
                    · simp only [Act.put, List.setIfInBounds_toArray, List.set_cons_zero, List.set_cons_succ, i64_w, i32_w]
                      rfl
                    refine pure_ (i := 16) (N := some 96) (v := undef) (a' := ?_) (bs 131071 28) rfl rfl (any_of HT_.out (by kernel_rfl)) (fun _ _ _ h => h) (Or.inr ⟨by rfl, rfl⟩) ?_ ?_
                    rotate_left
                    · simp only [Act.put, List.setIfInBounds_toArray, List.set_cons_zero, List.set_cons_succ, i64_w, i32_w]
                      rfl
                    refine pure_ (i := 17) (N := some 97) (v := undef) (a' := ?_) (bs 262143 28) rfl rfl (any_of HT_.out (by kernel_rfl)) (fun _ _ _ h => h) (Or.inr ⟨by rfl, rfl⟩) ?_ ?_
                    rotate_left
                    · simp only [Act.put, List.setIfInBounds_toArray, List.set_cons_zero, List.set_cons_succ, i64_w, i32_w]
                      rfl
                    refine pure_ (i := 18) (N := some 98) (v := undef) (a' := ?_) (bs 524287 28) rfl rfl (any_of HT_.out (by kernel_rfl)) (fun _ _ _ h => h) (Or.inr ⟨by rfl, rfl⟩) ?_ ?_
                    rotate_left
                    · simp only [Act.put, List.setIfInBounds_toArray, List.set_cons_zero, List.set_cons_succ, i64_w, i32_w]
                      rfl
                    refine pure_ (i := 19) (N := some 99) (v := undef) (a' := ?_) (bs 1048575 28) rfl rfl (any_of HT_.out (by kernel_rfl)) (fun _ _ _ h => h) (Or.inr ⟨by rfl, rfl⟩) ?_ ?_
                    rotate_left
                    · simp only [Act.put, List.setIfInBounds_toArray, List.set_cons_zero, List.set_cons_succ, i64_w, i32_w]
                      rfl
                    refine pure_ (i := 20) (N := some 100) (v := undef) (a' := ?_) (bs 2097151 28) rfl rfl (any_of HT_.out (by kernel_rfl)) (fun _ _ _ h => h) (Or.inr ⟨by rfl, rfl⟩) ?_ ?_
                    rotate_left
                    · simp only [Act.put, List.setIfInBounds_toArray, List.set_cons_zero, List.set_cons_succ, i64_w, i32_w]
                      rfl
                    refine pure_ (i := 21) (N := some 101) (v := undef) (a' := ?_) (bs 4194303 28) rfl rfl (any_of HT_.out (by kernel_rfl)) (fun _ _ _ h => h) (Or.inr ⟨by rfl, rfl⟩) ?_ ?_
                    rotate_left
                    · simp only [Act.put, List.setIfInBounds_toArray, List.set_cons_zero, List.set_cons_succ, i64_w, i32_w]
                      rfl
                    refine pure_ (i := 22) (N := some 102) (v := undef) (a' := ?_) (bs 8388607 28) rfl rfl (any_of HT_.out (by kernel_rfl)) (fun _ _ _ h => h) (Or.inr ⟨by rfl, rfl⟩) ?_ ?_
                    rotate_left
                    · simp only [Act.put, List.setIfInBounds_toArray, List.set_cons_zero, List.set_cons_succ, i64_w, i32_w]
                      rfl
                    refine pure_ (i := 23) (N := some 103) (v := undef) (a' := ?_) (bs 16777215 28) rfl rfl (any_of HT_.out (by kernel_rfl)) (fun _ _ _ h => h) (Or.inr ⟨by rfl, rfl⟩) ?_ ?_
                    rotate_left
                    · simp only [Act.put, List.setIfInBounds_toArray, List.set_cons_zero, List.set_cons_succ, i64_w, i32_w]
                      rfl
                    refine pureS 24 (some 104) (bs 33554431 28) ?_
                    refine pureS 25 (some 105) (bs 67108863 28) ?_
                    refine pureS 26 (some 106) (bs 134217727 28) ?_
                    refine last_ (i := 27) (N := none) (bs 268435455 28) rfl rfl (one_of HT_.out (by kernel_rfl)) (by decide) (fun K hK => ?_)
                    refine skip_ (w1 := ?_) (by rfl) rfl ?_ ?_
                    rotate_left
                    · have hfz_ := blk_frozen HI1.out.1 3
                      go_simp
                      rfl
                    refine hK.out _ _ ?_
                    clear hK K
                    refine done_ (done_of HT_.out (by kernel_rfl)) ?_
                    have hz69 := cells8 HI1.out.1
                    try go_wp2
                    go_roundg kj38
                    case measure => have := HK1.out; have := HJ10.out; have := HJ17.out; have := HJ38.out; omega
                    case rel => exact ⟨(x9_1), (x10_1), (wrap64 (t120 + 1)), (t121), (t122), (true), (true), (t125), (t126), (t127), H', ⟨qqt⟩, ⟨qqs⟩, ⟨qqr⟩, ⟨by (with_reducible repeat (first | refine blk_drewN ?_ _ | refine blk_drew ?_ | refine blk_alloc ?_ _)); refine blk_far ?_ NB108_1.out _; (with_reducible repeat (first | refine blk_drewN ?_ _ | refine blk_drew ?_ | refine blk_alloc ?_ _)); refine blk_far ?_ NB108_1.out _; (with_reducible repeat (first | refine blk_drewN ?_ _ | refine blk_drew ?_ | refine blk_alloc ?_ _)); exact BK108.out⟩, ⟨by repeat (first | (with_reducible first | exact HI1.out | apply IsS64.alloc | apply IsS64.drewN | apply IsS64.drew | apply IsS64.set_0 | apply IsS64.set_1 | apply IsS64.set_2 | apply IsS64.set_3 | apply IsS64.set_4 | apply IsS64.set_5 | apply IsS64.set_6 | apply IsS64.set_7 | refine IsS64.far ?_ NB1_108.out _ | refine IsS64.far ?_ NB1_110.out _) | exact HI1.out)⟩, ⟨by repeat (first | (with_reducible first | exact HK.out | apply KeepBut.set_ | apply keep_drewN | apply keep_drew | apply keep_alloc | refine keep_far ?_ GW108.out _ | refine keep_far ?_ GW110.out _) | exact HK.out)⟩, ⟨by repeat (first | (with_reducible first | exact HB.out | apply below_alloc | apply pw_below_drewN | apply below_drew1 | refine below_set ?_ (IsS64.ge HI1.out) | refine below_set ?_ GE108.out | refine below_set ?_ GE110.out) | exact HB.out)⟩⟩
                  replace c66 := Bool.eq_false_iff.mpr c66
                  subst c66
                  have H1 : (if ((rd_T38 l0 x2000_1).f1) > 0 then (partitaref10_walk.l0 kj38 l0 x9_1 x10_1 (wrap64 (t120 + 1)) t121 t122 (decide (t121 ≥ ((rd_T38 l0 x2000_1).f1))) false t125 t126 t127 t103 t104 t105 t106 t107) else (partitaref10_walk.l0 kj38 l0 x9_1 x10_1 (wrap64 (t120 + 1)) t121 t122 false false t125 t126 t127 t103 t104 t105 t106 t107)) = some (r1, r2, r3, r4, r5, r6, r7, r8, r9, r10, r11) := by rw [if_neg (show ¬ (false = true) by decide)] at H; exact H
                  clear H
                  have H := H1
                  clear H1
                  by_cases c70 : ((rd_T38 l0 x2000_1).f1) > 0
                  rotate_left
                  · rw [if_neg c70] at H
                    have c70b0 : decide (0 < ((rd_T38 l0 x2000_1).f1)) = false := decide_eq_false c70
                    clear c70
                    have H' := Aside0.mk H
                    clear H
                    try go_wp2_with (first | ((with_reducible refine gate_callee (f := 44) rfl ?_); refine goesL_ (some 78) rfl rfl Try.func44 (by kernel_rfl) rfl #[.pointer (some ⟨g, 0, none⟩), .slice (some ad109) l0.length c0] rfl qq1 ?_; (with_reducible refine (partitaref10_Walk_stands.calls kj38 g x2000_38 x2001_38 x2002_38 x2003_38 x2004_38 x2005_38 x2006_38 x2007_38 _ _ l0 false t120 t121 t122 false false t125 t126 t127 w _ ?side1 ?side2 ?side3 ?side4 A44.out).mono ?_); (case side1 => repeat (first | (with_reducible first | exact HI1.out | apply IsS64.alloc | apply IsS64.drewN | apply IsS64.drew | apply IsS64.set_0 | apply IsS64.set_1 | apply IsS64.set_2 | apply IsS64.set_3 | apply IsS64.set_4 | apply IsS64.set_5 | apply IsS64.set_6 | apply IsS64.set_7 | refine IsS64.far ?_ NB1_108.out _ | refine IsS64.far ?_ NB1_110.out _) | exact HI1.out)); (case side2 => repeat (first | (with_reducible first | exact HB.out | apply below_alloc | apply pw_below_drewN | apply below_drew1 | refine below_set ?_ (IsS64.ge HI1.out) | refine below_set ?_ GE108.out | refine below_set ?_ GE110.out) | exact HB.out)); (case side3 => exact Kd.C_foot_step HR0.out (by repeat (first | (with_reducible first | exact HK.out | apply KeepBut.set_ | apply keep_drewN | apply keep_drew | apply keep_alloc | refine keep_far ?_ GW108.out _ | refine keep_far ?_ GW110.out _) | exact HK.out))); (case side4 => exact HC0.out); rintro e w74 ⟨rfl, hi, hb, hk⟩; refine ⟨_, rfl, ?_⟩; replace HO_9 := Aside0.mk (Kd.R_mono (Kd.R_keep (IsS64.apart (show IsS64 w _ g x2000_38 x2001_38 x2002_38 x2003_38 x2004_38 x2005_38 x2006_38 x2007_38 from by repeat (first | (with_reducible first | exact HI1.out | apply IsS64.alloc | apply IsS64.drewN | apply IsS64.drew | apply IsS64.set_0 | apply IsS64.set_1 | apply IsS64.set_2 | apply IsS64.set_3 | apply IsS64.set_4 | apply IsS64.set_5 | apply IsS64.set_6 | apply IsS64.set_7 | refine IsS64.far ?_ NB1_108.out _ | refine IsS64.far ?_ NB1_110.out _) | exact HI1.out)) (qR HO_9.out) (by decide)) hk (fun _ h => h.2)) (fun _ h => h.1)); replace HO_10 := Aside0.mk (Kd.R_mono (Kd.R_keep (IsS64.apart (show IsS64 w _ g x2000_38 x2001_38 x2002_38 x2003_38 x2004_38 x2005_38 x2006_38 x2007_38 from by repeat (first | (with_reducible first | exact HI1.out | apply IsS64.alloc | apply IsS64.drewN | apply IsS64.drew | apply IsS64.set_0 | apply IsS64.set_1 | apply IsS64.set_2 | apply IsS64.set_3 | apply IsS64.set_4 | apply IsS64.set_5 | apply IsS64.set_6 | apply IsS64.set_7 | refine IsS64.far ?_ NB1_108.out _ | refine IsS64.far ?_ NB1_110.out _) | exact HI1.out)) (qR HO_10.out) (by decide)) hk (fun _ h => h.2)) (fun _ h => h.1)); replace BK108 := Aside0.mk (KeepBut.blk hk (g' := gb108) (o := .cells #[.int .i64 t103, .int .i64 t104, .int .i64 t105, .bool t106, .bool t107] 55 (0, 0)) (bq BK108.out) NB108_1.out (by simp)); replace BK110 := Aside0.mk (KeepBut.blk hk (g' := gb110) (o := .cells #[.bool ((rd_T38 l0 x2000_1).f0), .int .i64 ((rd_T38 l0 x2000_1).f1), .slice A109_2 ((rd_T38 l0 x2000_1).f2).length c109_2, .bool ((rd_T38 l0 x2000_1).f3), .bool ((rd_T38 l0 x2000_1).f4), .bool ((rd_T38 l0 x2000_1).f5), .bool ((rd_T38 l0 x2000_1).f6), .int .i64 ((rd_T38 l0 x2000_1).f7)] 38 (0, 0)) (bq BK110.out) NB110_1.out (by simp)); replace HK := Aside0.mk (KeepBut.trans (by repeat (first | (with_reducible first | exact HK.out | apply KeepBut.set_ | apply keep_drewN | apply keep_drew | apply keep_alloc | refine keep_far ?_ GW108.out _ | refine keep_far ?_ GW110.out _) | exact HK.out)) hk (.inl rfl)); replace HB := Aside0.mk (hb); replace HI1 := Aside0.mk (hi); (try clear hb); (try clear hb2); (try clear hk); (try clear hi)))
                    replace HO_9 := Aside0.mk (Kd.R_drew HO_9.out)
                    replace HO_10 := Aside0.mk (Kd.R_drew HO_10.out)
                    replace BK108 := Aside0.mk (blk_drew BK108.out)
                    replace BK110 := Aside0.mk (blk_drew BK110.out)
                    replace HI1 := Aside0.mk (IsS64.drew HI1.out)
                    replace HK := Aside0.mk (keep_drew HK.out)
                    replace HB := Aside0.mk (below_drew1 HB.out)
                    refine start_ (n := 28) (S := fun w' => w'.cell? ⟨g, 0, none⟩ = some (.int .i64 t120) ∧ w'.cell? ⟨g, 1, none⟩ = some (.int .i64 t121) ∧ w'.cell? ⟨g, 2, none⟩ = some (.int .i64 t122) ∧ w'.cell? ⟨g, 3, none⟩ = some (.bool false) ∧ w'.cell? ⟨g, 4, none⟩ = some (.bool false) ∧ w'.cell? ⟨g, 5, none⟩ = some (.bool t125) ∧ w'.cell? ⟨g, 6, none⟩ = some (.bool t126) ∧ w'.cell? ⟨g, 7, none⟩ = some (.bool t127) ∧ w'.cell? ⟨gb110, 0, none⟩ = some (.bool ((rd_T38 l0 x2000_1).f0)) ∧ w'.cell? ⟨gb110, 1, none⟩ = some (.int .i64 ((rd_T38 l0 x2000_1).f1)) ∧ w'.cell? ⟨gb110, 2, none⟩ = some (.slice A109_2 ((rd_T38 l0 x2000_1).f2).length c109_2) ∧ w'.cell? ⟨gb110, 3, none⟩ = some (.bool ((rd_T38 l0 x2000_1).f3)) ∧ w'.cell? ⟨gb110, 4, none⟩ = some (.bool ((rd_T38 l0 x2000_1).f4)) ∧ w'.cell? ⟨gb110, 5, none⟩ = some (.bool ((rd_T38 l0 x2000_1).f5)) ∧ w'.cell? ⟨gb110, 6, none⟩ = some (.bool ((rd_T38 l0 x2000_1).f6)) ∧ w'.cell? ⟨gb110, 7, none⟩ = some (.int .i64 ((rd_T38 l0 x2000_1).f7))) (ds := [27]) #[false, false, false, false, false, false, false, false, false, false, false, false, false, false, false, false, false, false, false, false, false, false, false, false, false, false, false, false] (by kernel_rfl) rfl rfl ⟨(cellS64_0 HI1.out.1), (cellS64_1 HI1.out.1), (cellS64_2 HI1.out.1), (cellS64_3 HI1.out.1), (cellS64_4 HI1.out.1), (cellS64_5 HI1.out.1), (cellS64_6 HI1.out.1), (cellS64_7 HI1.out.1), (blk_cell BK110.out 0).trans rfl, (blk_cell BK110.out 1).trans rfl, (blk_cell BK110.out 2).trans rfl, (blk_cell BK110.out 3).trans rfl, (blk_cell BK110.out 4).trans rfl, (blk_cell BK110.out 5).trans rfl, (blk_cell BK110.out 6).trans rfl, (blk_cell BK110.out 7).trans rfl⟩ (fun hHeld => ?_); refine with_tabW partitaref10_walk.tab13 partitaref10_walk.bits13 (fun HT_ HW_ => ?_)
                    generalize w74.drew = w75 at HO_9 HO_10 BK108 BK110 HI1 HK HB hHeld ⊢
                    refine pureS 0 (some 80) (bs 1 28) ?_
                    refine pureS 1 (some 81) (bs 3 28) ?_
                    refine pureS 2 (some 82) (bs 7 28) ?_
                    refine pureS 3 (some 83) (bs 15 28) ?_
                    refine take_ (i := 4) (N := some 84) (v := ?_) (a' := ?_) (bs 31 28) rfl rfl (take_ofW HT_.out HW_.out (by kernel_rfl)) (fun _ _ _ h => h) (Or.inl ⟨by rfl, ?_⟩) hHeld ?_ ?_
                    rotate_left
                    · rintro w' ⟨s0, s1, s2, s3, s4, s5, s6, s7, s8, s9, s10, s11, s12, s13, s14, s15⟩
                      go_simp
                      with_reducible rfl
                    rotate_left
                    · simp only [Act.put, List.setIfInBounds_toArray, List.set_cons_zero, List.set_cons_succ, i64_w, i32_w]
                      rfl
                    refine pureS 5 (some 85) (bs 63 28) ?_
                    refine pureS 6 (some 86) (bs 127 28) ?_
                    refine pureS 7 (some 87) (bs 255 28) ?_
                    refine pureS 8 (some 88) (bs 511 28) ?_
                    refine take_ (i := 9) (N := some 89) (v := ?_) (a' := ?_) (bs 1023 28) rfl rfl (take_ofW HT_.out HW_.out (by kernel_rfl)) (fun _ _ _ h => h) (Or.inl ⟨by rfl, ?_⟩) hHeld ?_ ?_
                    rotate_left
                    · rintro w' ⟨s0, s1, s2, s3, s4, s5, s6, s7, s8, s9, s10, s11, s12, s13, s14, s15⟩
                      go_simp
                      with_reducible rfl
                    rotate_left
                    · simp only [Act.put, List.setIfInBounds_toArray, List.set_cons_zero, List.set_cons_succ, i64_w, i32_w]
                      rfl
                    refine pureS 10 (some 90) (bs 2047 28) ?_
                    refine pureS 11 (some 91) (bs 4095 28) ?_
                    refine pureS 12 (some 92) (bs 8191 28) ?_
                    refine take_ (i := 13) (N := some 93) (v := ?_) (a' := ?_) (bs 16383 28) rfl rfl (take_ofW HT_.out HW_.out (by kernel_rfl)) (fun _ _ _ h => h) (Or.inl ⟨by rfl, ?_⟩) hHeld ?_ ?_
                    rotate_left
                    · rintro w' ⟨s0, s1, s2, s3, s4, s5, s6, s7, s8, s9, s10, s11, s12, s13, s14, s15⟩
                      go_simp
                      with_reducible rfl
                    rotate_left
                    · simp only [Act.put, List.setIfInBounds_toArray, List.set_cons_zero, List.set_cons_succ, i64_w, i32_w]
                      rfl
                    refine pureS 14 (some 94) (bs 32767 28) ?_
                    refine pureS 15 (some 95) (bs 65535 28) ?_
                    refine pure_ (i := 16) (N := some 96) (v := undef) (a' := ?_) (bs 131071 28) rfl rfl (any_of HT_.out (by kernel_rfl)) (fun _ _ _ h => h) (Or.inr ⟨by rfl, rfl⟩) ?_ ?_
                    rotate_left
                    · simp only [Act.put, List.setIfInBounds_toArray, List.set_cons_zero, List.set_cons_succ, i64_w, i32_w]
                      rfl
                    refine pure_ (i := 17) (N := some 97) (v := undef) (a' := ?_) (bs 262143 28) rfl rfl (any_of HT_.out (by kernel_rfl)) (fun _ _ _ h => h) (Or.inr ⟨by rfl, rfl⟩) ?_ ?_
                    rotate_left
                    · simp only [Act.put, List.setIfInBounds_toArray, List.set_cons_zero, List.set_cons_succ, i64_w, i32_w]
                      rfl
                    refine pure_ (i := 18) (N := some 98) (v := undef) (a' := ?_) (bs 524287 28) rfl rfl (any_of HT_.out (by kernel_rfl)) (fun _ _ _ h => h) (Or.inr ⟨by rfl, rfl⟩) ?_ ?_
                    rotate_left
                    · simp only [Act.put, List.setIfInBounds_toArray, List.set_cons_zero, List.set_cons_succ, i64_w, i32_w]
                      rfl
                    refine pure_ (i := 19) (N := some 99) (v := undef) (a' := ?_) (bs 1048575 28) rfl rfl (any_of HT_.out (by kernel_rfl)) (fun _ _ _ h => h) (Or.inr ⟨by rfl, rfl⟩) ?_ ?_
                    rotate_left
                    · simp only [Act.put, List.setIfInBounds_toArray, List.set_cons_zero, List.set_cons_succ, i64_w, i32_w]
                      rfl
                    refine pure_ (i := 20) (N := some 100) (v := undef) (a' := ?_) (bs 2097151 28) rfl rfl (any_of HT_.out (by kernel_rfl)) (fun _ _ _ h => h) (Or.inr ⟨by rfl, rfl⟩) ?_ ?_
                    rotate_left
                    · simp only [Act.put, List.setIfInBounds_toArray, List.set_cons_zero, List.set_cons_succ, i64_w, i32_w]
                      rfl
                    refine pure_ (i := 21) (N := some 101) (v := undef) (a' := ?_) (bs 4194303 28) rfl rfl (any_of HT_.out (by kernel_rfl)) (fun _ _ _ h => h) (Or.inr ⟨by rfl, rfl⟩) ?_ ?_
                    rotate_left
                    · simp only [Act.put, List.setIfInBounds_toArray, List.set_cons_zero, List.set_cons_succ, i64_w, i32_w]
                      rfl
                    refine pure_ (i := 22) (N := some 102) (v := undef) (a' := ?_) (bs 8388607 28) rfl rfl (any_of HT_.out (by kernel_rfl)) (fun _ _ _ h => h) (Or.inr ⟨by rfl, rfl⟩) ?_ ?_
                    rotate_left
                    · simp only [Act.put, List.setIfInBounds_toArray, List.set_cons_zero, List.set_cons_succ, i64_w, i32_w]
                      rfl
                    refine pureS 23 (some 103) (bs 16777215 28) ?_
                    refine pureS 24 (some 104) (bs 33554431 28) ?_
                    refine pureS 25 (some 105) (bs 67108863 28) ?_
                    refine pureS 26 (some 106) (bs 134217727 28) ?_
                    refine last_ (i := 27) (N := none) (bs 268435455 28) rfl rfl (one_of HT_.out (by kernel_rfl)) (by decide) (fun K hK => ?_)
                    refine skip_ (w1 := ?_) (by rfl) rfl ?_ ?_
                    rotate_left
                    · have hfz_ := blk_frozen HI1.out.1 3
                      go_simp
                      rfl
                    refine hK.out _ _ ?_
                    clear hK K
                    refine done_ (done_of HT_.out (by kernel_rfl)) ?_
                    have hz76 := cells8 HI1.out.1
                    try go_wp2
                    go_roundg kj38
                    case measure => have := HK1.out; have := HJ10.out; have := HJ17.out; have := HJ38.out; omega
                    case rel => exact ⟨(x9_1), (x10_1), (wrap64 (t120 + 1)), (t121), (t122), (false), (false), (t125), (t126), (t127), H', ⟨qqt⟩, ⟨by (with_reducible repeat (first | apply Kd.R_alloc | apply Kd.R_drewN | apply Kd.R_drew)); exact Kd.R_mono (Kd.R_far (p := ⟨g, 0, none⟩) (Kd.R_far (p := ⟨g, 3, none⟩) (IsS64.apart HI1.out HO_9.out (by decide)) (fun _ hk => hk.2) (.bool false)) (fun _ hk => hk.2) (.int .i64 (wrap64 (t120 + 1)))) (fun _ hk => hk.1)⟩, ⟨by (with_reducible repeat (first | apply Kd.R_alloc | apply Kd.R_drewN | apply Kd.R_drew)); exact Kd.R_mono (Kd.R_far (p := ⟨g, 0, none⟩) (Kd.R_far (p := ⟨g, 3, none⟩) (IsS64.apart HI1.out HO_10.out (by decide)) (fun _ hk => hk.2) (.bool false)) (fun _ hk => hk.2) (.int .i64 (wrap64 (t120 + 1)))) (fun _ hk => hk.1)⟩, ⟨by (with_reducible repeat (first | refine blk_drewN ?_ _ | refine blk_drew ?_ | refine blk_alloc ?_ _)); refine blk_far ?_ NB108_1.out _; (with_reducible repeat (first | refine blk_drewN ?_ _ | refine blk_drew ?_ | refine blk_alloc ?_ _)); refine blk_far ?_ NB108_1.out _; (with_reducible repeat (first | refine blk_drewN ?_ _ | refine blk_drew ?_ | refine blk_alloc ?_ _)); exact BK108.out⟩, ⟨by repeat (first | (with_reducible first | exact HI1.out | apply IsS64.alloc | apply IsS64.drewN | apply IsS64.drew | apply IsS64.set_0 | apply IsS64.set_1 | apply IsS64.set_2 | apply IsS64.set_3 | apply IsS64.set_4 | apply IsS64.set_5 | apply IsS64.set_6 | apply IsS64.set_7 | refine IsS64.far ?_ NB1_108.out _ | refine IsS64.far ?_ NB1_110.out _) | exact HI1.out)⟩, ⟨by repeat (first | (with_reducible first | exact HK.out | apply KeepBut.set_ | apply keep_drewN | apply keep_drew | apply keep_alloc | refine keep_far ?_ GW108.out _ | refine keep_far ?_ GW110.out _) | exact HK.out)⟩, ⟨by repeat (first | (with_reducible first | exact HB.out | apply below_alloc | apply pw_below_drewN | apply below_drew1 | refine below_set ?_ (IsS64.ge HI1.out) | refine below_set ?_ GE108.out | refine below_set ?_ GE110.out) | exact HB.out)⟩⟩
                  rw [if_pos c70] at H
                  have c70b0 : decide (0 < ((rd_T38 l0 x2000_1).f1)) = true := decide_eq_true c70
                  clear c70
                  have H' := Aside0.mk H
                  clear H
                  try go_wp2_with (first | ((with_reducible refine gate_callee (f := 44) rfl ?_); refine goesL_ (some 78) rfl rfl Try.func44 (by kernel_rfl) rfl #[.pointer (some ⟨g, 0, none⟩), .slice (some ad109) l0.length c0] rfl qq1 ?_; (with_reducible refine (partitaref10_Walk_stands.calls kj38 g x2000_38 x2001_38 x2002_38 x2003_38 x2004_38 x2005_38 x2006_38 x2007_38 _ _ l0 false t120 t121 t122 false false t125 t126 t127 w _ ?side1 ?side2 ?side3 ?side4 A44.out).mono ?_); (case side1 => repeat (first | (with_reducible first | exact HI1.out | apply IsS64.alloc | apply IsS64.drewN | apply IsS64.drew | apply IsS64.set_0 | apply IsS64.set_1 | apply IsS64.set_2 | apply IsS64.set_3 | apply IsS64.set_4 | apply IsS64.set_5 | apply IsS64.set_6 | apply IsS64.set_7 | refine IsS64.far ?_ NB1_108.out _ | refine IsS64.far ?_ NB1_110.out _) | exact HI1.out)); (case side2 => repeat (first | (with_reducible first | exact HB.out | apply below_alloc | apply pw_below_drewN | apply below_drew1 | refine below_set ?_ (IsS64.ge HI1.out) | refine below_set ?_ GE108.out | refine below_set ?_ GE110.out) | exact HB.out)); (case side3 => exact Kd.C_foot_step HR0.out (by repeat (first | (with_reducible first | exact HK.out | apply KeepBut.set_ | apply keep_drewN | apply keep_drew | apply keep_alloc | refine keep_far ?_ GW108.out _ | refine keep_far ?_ GW110.out _) | exact HK.out))); (case side4 => exact HC0.out); rintro e w71 ⟨rfl, hi, hb, hk⟩; refine ⟨_, rfl, ?_⟩; replace HO_9 := Aside0.mk (Kd.R_mono (Kd.R_keep (IsS64.apart (show IsS64 w _ g x2000_38 x2001_38 x2002_38 x2003_38 x2004_38 x2005_38 x2006_38 x2007_38 from by repeat (first | (with_reducible first | exact HI1.out | apply IsS64.alloc | apply IsS64.drewN | apply IsS64.drew | apply IsS64.set_0 | apply IsS64.set_1 | apply IsS64.set_2 | apply IsS64.set_3 | apply IsS64.set_4 | apply IsS64.set_5 | apply IsS64.set_6 | apply IsS64.set_7 | refine IsS64.far ?_ NB1_108.out _ | refine IsS64.far ?_ NB1_110.out _) | exact HI1.out)) (qR HO_9.out) (by decide)) hk (fun _ h => h.2)) (fun _ h => h.1)); replace HO_10 := Aside0.mk (Kd.R_mono (Kd.R_keep (IsS64.apart (show IsS64 w _ g x2000_38 x2001_38 x2002_38 x2003_38 x2004_38 x2005_38 x2006_38 x2007_38 from by repeat (first | (with_reducible first | exact HI1.out | apply IsS64.alloc | apply IsS64.drewN | apply IsS64.drew | apply IsS64.set_0 | apply IsS64.set_1 | apply IsS64.set_2 | apply IsS64.set_3 | apply IsS64.set_4 | apply IsS64.set_5 | apply IsS64.set_6 | apply IsS64.set_7 | refine IsS64.far ?_ NB1_108.out _ | refine IsS64.far ?_ NB1_110.out _) | exact HI1.out)) (qR HO_10.out) (by decide)) hk (fun _ h => h.2)) (fun _ h => h.1)); replace BK108 := Aside0.mk (KeepBut.blk hk (g' := gb108) (o := .cells #[.int .i64 t103, .int .i64 t104, .int .i64 t105, .bool t106, .bool t107] 55 (0, 0)) (bq BK108.out) NB108_1.out (by simp)); replace BK110 := Aside0.mk (KeepBut.blk hk (g' := gb110) (o := .cells #[.bool ((rd_T38 l0 x2000_1).f0), .int .i64 ((rd_T38 l0 x2000_1).f1), .slice A109_2 ((rd_T38 l0 x2000_1).f2).length c109_2, .bool ((rd_T38 l0 x2000_1).f3), .bool ((rd_T38 l0 x2000_1).f4), .bool ((rd_T38 l0 x2000_1).f5), .bool ((rd_T38 l0 x2000_1).f6), .int .i64 ((rd_T38 l0 x2000_1).f7)] 38 (0, 0)) (bq BK110.out) NB110_1.out (by simp)); replace HK := Aside0.mk (KeepBut.trans (by repeat (first | (with_reducible first | exact HK.out | apply KeepBut.set_ | apply keep_drewN | apply keep_drew | apply keep_alloc | refine keep_far ?_ GW108.out _ | refine keep_far ?_ GW110.out _) | exact HK.out)) hk (.inl rfl)); replace HB := Aside0.mk (hb); replace HI1 := Aside0.mk (hi); (try clear hb); (try clear hb2); (try clear hk); (try clear hi)))
                  replace HO_9 := Aside0.mk (Kd.R_drew HO_9.out)
                  replace HO_10 := Aside0.mk (Kd.R_drew HO_10.out)
                  replace BK108 := Aside0.mk (blk_drew BK108.out)
                  replace BK110 := Aside0.mk (blk_drew BK110.out)
                  replace HI1 := Aside0.mk (IsS64.drew HI1.out)
                  replace HK := Aside0.mk (keep_drew HK.out)
                  replace HB := Aside0.mk (below_drew1 HB.out)
                  refine start_ (n := 28) (S := fun w' => w'.cell? ⟨g, 0, none⟩ = some (.int .i64 t120) ∧ w'.cell? ⟨g, 1, none⟩ = some (.int .i64 t121) ∧ w'.cell? ⟨g, 2, none⟩ = some (.int .i64 t122) ∧ w'.cell? ⟨g, 3, none⟩ = some (.bool false) ∧ w'.cell? ⟨g, 4, none⟩ = some (.bool false) ∧ w'.cell? ⟨g, 5, none⟩ = some (.bool t125) ∧ w'.cell? ⟨g, 6, none⟩ = some (.bool t126) ∧ w'.cell? ⟨g, 7, none⟩ = some (.bool t127) ∧ w'.cell? ⟨gb110, 0, none⟩ = some (.bool ((rd_T38 l0 x2000_1).f0)) ∧ w'.cell? ⟨gb110, 1, none⟩ = some (.int .i64 ((rd_T38 l0 x2000_1).f1)) ∧ w'.cell? ⟨gb110, 2, none⟩ = some (.slice A109_2 ((rd_T38 l0 x2000_1).f2).length c109_2) ∧ w'.cell? ⟨gb110, 3, none⟩ = some (.bool ((rd_T38 l0 x2000_1).f3)) ∧ w'.cell? ⟨gb110, 4, none⟩ = some (.bool ((rd_T38 l0 x2000_1).f4)) ∧ w'.cell? ⟨gb110, 5, none⟩ = some (.bool ((rd_T38 l0 x2000_1).f5)) ∧ w'.cell? ⟨gb110, 6, none⟩ = some (.bool ((rd_T38 l0 x2000_1).f6)) ∧ w'.cell? ⟨gb110, 7, none⟩ = some (.int .i64 ((rd_T38 l0 x2000_1).f7))) (ds := [27]) #[false, false, false, false, false, false, false, false, false, false, false, false, false, false, false, false, false, false, false, false, false, false, false, false, false, false, false, false] (by kernel_rfl) rfl rfl ⟨(cellS64_0 HI1.out.1), (cellS64_1 HI1.out.1), (cellS64_2 HI1.out.1), (cellS64_3 HI1.out.1), (cellS64_4 HI1.out.1), (cellS64_5 HI1.out.1), (cellS64_6 HI1.out.1), (cellS64_7 HI1.out.1), (blk_cell BK110.out 0).trans rfl, (blk_cell BK110.out 1).trans rfl, (blk_cell BK110.out 2).trans rfl, (blk_cell BK110.out 3).trans rfl, (blk_cell BK110.out 4).trans rfl, (blk_cell BK110.out 5).trans rfl, (blk_cell BK110.out 6).trans rfl, (blk_cell BK110.out 7).trans rfl⟩ (fun hHeld => ?_); refine with_tabW partitaref10_walk.tab13 partitaref10_walk.bits13 (fun HT_ HW_ => ?_)
                  generalize w71.drew = w72 at HO_9 HO_10 BK108 BK110 HI1 HK HB hHeld ⊢
                  refine pureS 0 (some 80) (bs 1 28) ?_
                  refine pureS 1 (some 81) (bs 3 28) ?_
                  refine pureS 2 (some 82) (bs 7 28) ?_
                  refine pureS 3 (some 83) (bs 15 28) ?_
                  refine take_ (i := 4) (N := some 84) (v := ?_) (a' := ?_) (bs 31 28) rfl rfl (take_ofW HT_.out HW_.out (by kernel_rfl)) (fun _ _ _ h => h) (Or.inl ⟨by rfl, ?_⟩) hHeld ?_ ?_
                  rotate_left
                  · rintro w' ⟨s0, s1, s2, s3, s4, s5, s6, s7, s8, s9, s10, s11, s12, s13, s14, s15⟩
                    go_simp
                    with_reducible rfl
                  rotate_left
                  · simp only [Act.put, List.setIfInBounds_toArray, List.set_cons_zero, List.set_cons_succ, i64_w, i32_w]
                    rfl
                  refine pureS 5 (some 85) (bs 63 28) ?_
                  refine pureS 6 (some 86) (bs 127 28) ?_
                  refine pureS 7 (some 87) (bs 255 28) ?_
                  refine pureS 8 (some 88) (bs 511 28) ?_
                  refine take_ (i := 9) (N := some 89) (v := ?_) (a' := ?_) (bs 1023 28) rfl rfl (take_ofW HT_.out HW_.out (by kernel_rfl)) (fun _ _ _ h => h) (Or.inl ⟨by rfl, ?_⟩) hHeld ?_ ?_
                  rotate_left
                  · rintro w' ⟨s0, s1, s2, s3, s4, s5, s6, s7, s8, s9, s10, s11, s12, s13, s14, s15⟩
                    go_simp
                    with_reducible rfl
                  rotate_left
                  · simp only [Act.put, List.setIfInBounds_toArray, List.set_cons_zero, List.set_cons_succ, i64_w, i32_w]
                    rfl
                  refine pureS 10 (some 90) (bs 2047 28) ?_
                  refine pureS 11 (some 91) (bs 4095 28) ?_
                  refine pureS 12 (some 92) (bs 8191 28) ?_
                  refine take_ (i := 13) (N := some 93) (v := ?_) (a' := ?_) (bs 16383 28) rfl rfl (take_ofW HT_.out HW_.out (by kernel_rfl)) (fun _ _ _ h => h) (Or.inl ⟨by rfl, ?_⟩) hHeld ?_ ?_
                  rotate_left
                  · rintro w' ⟨s0, s1, s2, s3, s4, s5, s6, s7, s8, s9, s10, s11, s12, s13, s14, s15⟩
                    go_simp
                    with_reducible rfl
                  rotate_left
                  · simp only [Act.put, List.setIfInBounds_toArray, List.set_cons_zero, List.set_cons_succ, i64_w, i32_w]
                    rfl
                  refine pureS 14 (some 94) (bs 32767 28) ?_
                  refine pureS 15 (some 95) (bs 65535 28) ?_
                  refine pureS 16 (some 96) (bs 131071 28) ?_
                  refine pureS 17 (some 97) (bs 262143 28) ?_
                  refine pureS 18 (some 98) (bs 524287 28) ?_
                  refine pureS 20 (some 100) (bs 1572863 28) ?_
                  refine take_ (i := 19) (N := some 99) (v := ?_) (a' := ?_) (bs 2097151 28) rfl rfl (take_ofW HT_.out HW_.out (by kernel_rfl)) (fun _ _ _ h => h) (Or.inl ⟨by rfl, ?_⟩) hHeld ?_ ?_
                  rotate_left
                  · rintro w' ⟨s0, s1, s2, s3, s4, s5, s6, s7, s8, s9, s10, s11, s12, s13, s14, s15⟩
                    go_simp
                    with_reducible rfl
                  rotate_left
                  · simp only [Act.put, List.setIfInBounds_toArray, List.set_cons_zero, List.set_cons_succ, i64_w, i32_w]
                    rfl
                  refine take_ (i := 21) (N := some 101) (v := ?_) (a' := ?_) (bs 4194303 28) rfl rfl (take_ofW HT_.out HW_.out (by kernel_rfl)) (fun _ _ _ h => h) (Or.inl ⟨by rfl, ?_⟩) hHeld ?_ ?_
                  rotate_left
                  · rintro w' ⟨s0, s1, s2, s3, s4, s5, s6, s7, s8, s9, s10, s11, s12, s13, s14, s15⟩
                    go_simp
                    with_reducible rfl
                  rotate_left
                  · simp only [Act.put, List.setIfInBounds_toArray, List.set_cons_zero, List.set_cons_succ, i64_w, i32_w]
                    rfl
                  refine pureS 22 (some 102) (bs 8388607 28) ?_
                  refine pureS 23 (some 103) (bs 16777215 28) ?_
                  refine pureS 24 (some 104) (bs 33554431 28) ?_
                  refine pureS 25 (some 105) (bs 67108863 28) ?_
                  refine pureS 26 (some 106) (bs 134217727 28) ?_
                  refine last_ (i := 27) (N := none) (bs 268435455 28) rfl rfl (one_of HT_.out (by kernel_rfl)) (by decide) (fun K hK => ?_)
                  refine skip_ (w1 := ?_) (by rfl) rfl ?_ ?_
                  rotate_left
                  · have hfz_ := blk_frozen HI1.out.1 3
                    go_simp
                    rfl
                  refine hK.out _ _ ?_
                  clear hK K
                  refine done_ (done_of HT_.out (by kernel_rfl)) ?_
                  have hz73 := cells8 HI1.out.1
                  try go_wp2
                  go_roundg kj38
                  case measure => have := HK1.out; have := HJ10.out; have := HJ17.out; have := HJ38.out; omega
                  case rel => exact ⟨(x9_1), (x10_1), (wrap64 (t120 + 1)), (t121), (t122), (decide (t121 ≥ ((rd_T38 l0 x2000_1).f1))), (false), (t125), (t126), (t127), H', ⟨qqt⟩, ⟨by (with_reducible repeat (first | apply Kd.R_alloc | apply Kd.R_drewN | apply Kd.R_drew)); exact Kd.R_mono (Kd.R_far (p := ⟨g, 0, none⟩) (Kd.R_far (p := ⟨g, 3, none⟩) (IsS64.apart HI1.out HO_9.out (by decide)) (fun _ hk => hk.2) (.bool (decide (t121 ≥ ((rd_T38 l0 x2000_1).f1))))) (fun _ hk => hk.2) (.int .i64 (wrap64 (t120 + 1)))) (fun _ hk => hk.1)⟩, ⟨by (with_reducible repeat (first | apply Kd.R_alloc | apply Kd.R_drewN | apply Kd.R_drew)); exact Kd.R_mono (Kd.R_far (p := ⟨g, 0, none⟩) (Kd.R_far (p := ⟨g, 3, none⟩) (IsS64.apart HI1.out HO_10.out (by decide)) (fun _ hk => hk.2) (.bool (decide (t121 ≥ ((rd_T38 l0 x2000_1).f1))))) (fun _ hk => hk.2) (.int .i64 (wrap64 (t120 + 1)))) (fun _ hk => hk.1)⟩, ⟨by (with_reducible repeat (first | refine blk_drewN ?_ _ | refine blk_drew ?_ | refine blk_alloc ?_ _)); refine blk_far ?_ NB108_1.out _; (with_reducible repeat (first | refine blk_drewN ?_ _ | refine blk_drew ?_ | refine blk_alloc ?_ _)); refine blk_far ?_ NB108_1.out _; (with_reducible repeat (first | refine blk_drewN ?_ _ | refine blk_drew ?_ | refine blk_alloc ?_ _)); exact BK108.out⟩, ⟨by repeat (first | (with_reducible first | exact HI1.out | apply IsS64.alloc | apply IsS64.drewN | apply IsS64.drew | apply IsS64.set_0 | apply IsS64.set_1 | apply IsS64.set_2 | apply IsS64.set_3 | apply IsS64.set_4 | apply IsS64.set_5 | apply IsS64.set_6 | apply IsS64.set_7 | refine IsS64.far ?_ NB1_108.out _ | refine IsS64.far ?_ NB1_110.out _) | exact HI1.out)⟩, ⟨by repeat (first | (with_reducible first | exact HK.out | apply KeepBut.set_ | apply keep_drewN | apply keep_drew | apply keep_alloc | refine keep_far ?_ GW108.out _ | refine keep_far ?_ GW110.out _) | exact HK.out)⟩, ⟨by repeat (first | (with_reducible first | exact HB.out | apply below_alloc | apply pw_below_drewN | apply below_drew1 | refine below_set ?_ (IsS64.ge HI1.out) | refine below_set ?_ GE108.out | refine below_set ?_ GE110.out) | exact HB.out)⟩⟩
def partitaref10_Unfold.f (k : Nat) (l0 : List (S38)) : Option (List Int × Int) := (partitaref10_walk.f k l0).bind fun bt101 => (some (bt101.1, bt101.2.2))
theorem partitaref10_Unfold.mono : ∀ a0 k, LeO (partitaref10_Unfold.f k a0) (partitaref10_Unfold.f (k + 1) a0) := by
  intro a0 k
  unfold partitaref10_Unfold.f
  repeat' first
      | (with_reducible exact partitaref10_walk.mono _ _)
      | (with_reducible exact LeO.refl _)
      | (with_reducible exact LeO.none _)
      | (with_reducible refine LeO.ite ?_ ?_)
      | (with_reducible refine LeO.bind ?_ (fun _ => ?_))
      | exact partitaref10_walk.mono _ _
      | exact LeO.none _
      | refine LeO.ite ?_ ?_
      | refine LeO.bind ?_ (fun _ => ?_)
set_option maxHeartbeats 8000000 in
set_option maxRecDepth 100000 in
theorem partitaref10_Unfold.calls (k : Nat) (A0 : Option Addr) (c0 : Nat) (l0 : List (S38)) (r1 : List Int) (r2 : Int) (w : World) (hr0 : Kd.C k38 w A0 l0.length l0) (hc0 : l0.length ≤ c0) (h : partitaref10_Unfold.f k l0 = some (r1, r2)) :
    Calls Try.prog 16 #[.slice A0 l0.length c0] w fun e w' => ∃ v0_ : Value, e = .returned (.tuple #[v0_, .int .i64 r2]) ∧ Kd.R (Kd.int .i64) 3 w' w.heap.size (fun _ => True) v0_ r1 ∧ Below w.heap.size w w' := by
  have HR0 := Aside0.mk hr0
  have HC0 := Aside0.mk hc0
  clear hr0 hc0
  have HB := Aside0.mk (Below.refl w.heap.size w)
  have H := h
  unfold partitaref10_Unfold.f at H
  clear h
  replace H := Option.bind_eq_some_iff.mp H
  obtain ⟨⟨t101, t102, t103⟩, A20, H⟩ := H
  try dsimp -simprocs only at H
  have A2 := Aside0.mk A20
  clear A20
  simp only [Option.some.injEq, Prod.mk.injEq] at H
  obtain ⟨rfl, rfl⟩ := H
  go_enter Try.func16, Try.ntmps16
  go_wp2_with (first | ((with_reducible refine gate_callee (f := 37) rfl ?_); refine goesL_ (some 9) rfl rfl Try.func37 (by kernel_rfl) rfl #[.slice A0 l0.length c0] rfl qq1 ?_; (with_reducible refine (partitaref10_walk.calls k _ _ l0 t101 t102 t103 _ ?side1 ?side2 A2.out).mono ?_); (case side1 => repeat (first | exact HR0.out | (with_reducible refine Kd.C_alloc ?_ _) | (with_reducible refine Kd.C_drewN ?_ _) | (with_reducible refine Kd.C_drew ?_))); (case side2 => exact HC0.out); rintro e w3 ⟨v104, v106, rfl, ho0, ho1, hb⟩; refine ⟨_, rfl, ?_⟩; have HO105 := Aside0.mk (Kd.R_lower ho0 (below_size (qB HB.out))); have HO107 := Aside0.mk (Kd.R_lower ho1 (below_size (qB HB.out))); replace HB := Aside0.mk (below_step (qB HB.out) hb); (try clear hb); (try clear hb2); (try clear hk); (try clear hi); (try clear ho0); (try clear ho1)))
  go_ret2
  exact ⟨_, qq2, qqW, qB HB.out⟩
def partitaref10_Passes.f (k : Nat) (l0 : List (S38)) : Option (List Int × Int) := (partitaref10_walk.f k l0).bind fun bt101 => (some (bt101.2.1, bt101.2.2))
theorem partitaref10_Passes.mono : ∀ a0 k, LeO (partitaref10_Passes.f k a0) (partitaref10_Passes.f (k + 1) a0) := by
  intro a0 k
  unfold partitaref10_Passes.f
  repeat' first
      | (with_reducible exact partitaref10_walk.mono _ _)
      | (with_reducible exact LeO.refl _)
      | (with_reducible exact LeO.none _)
      | (with_reducible refine LeO.ite ?_ ?_)
      | (with_reducible refine LeO.bind ?_ (fun _ => ?_))
      | exact partitaref10_walk.mono _ _
      | exact LeO.none _
      | refine LeO.ite ?_ ?_
      | refine LeO.bind ?_ (fun _ => ?_)
set_option maxHeartbeats 8000000 in
set_option maxRecDepth 100000 in
theorem partitaref10_Passes.calls (k : Nat) (A0 : Option Addr) (c0 : Nat) (l0 : List (S38)) (r1 : List Int) (r2 : Int) (w : World) (hr0 : Kd.C k38 w A0 l0.length l0) (hc0 : l0.length ≤ c0) (h : partitaref10_Passes.f k l0 = some (r1, r2)) :
    Calls Try.prog 18 #[.slice A0 l0.length c0] w fun e w' => ∃ v0_ : Value, e = .returned (.tuple #[v0_, .int .i64 r2]) ∧ Kd.R (Kd.int .i64) 3 w' w.heap.size (fun _ => True) v0_ r1 ∧ Below w.heap.size w w' := by
  have HR0 := Aside0.mk hr0
  have HC0 := Aside0.mk hc0
  clear hr0 hc0
  have HB := Aside0.mk (Below.refl w.heap.size w)
  have H := h
  unfold partitaref10_Passes.f at H
  clear h
  replace H := Option.bind_eq_some_iff.mp H
  obtain ⟨⟨t101, t102, t103⟩, A20, H⟩ := H
  try dsimp -simprocs only at H
  have A2 := Aside0.mk A20
  clear A20
  simp only [Option.some.injEq, Prod.mk.injEq] at H
  obtain ⟨rfl, rfl⟩ := H
  go_enter Try.func18, Try.ntmps18
  go_wp2_with (first | ((with_reducible refine gate_callee (f := 37) rfl ?_); refine goesL_ (some 9) rfl rfl Try.func37 (by kernel_rfl) rfl #[.slice A0 l0.length c0] rfl qq1 ?_; (with_reducible refine (partitaref10_walk.calls k _ _ l0 t101 t102 t103 _ ?side1 ?side2 A2.out).mono ?_); (case side1 => repeat (first | exact HR0.out | (with_reducible refine Kd.C_alloc ?_ _) | (with_reducible refine Kd.C_drewN ?_ _) | (with_reducible refine Kd.C_drew ?_))); (case side2 => exact HC0.out); rintro e w3 ⟨v104, v106, rfl, ho0, ho1, hb⟩; refine ⟨_, rfl, ?_⟩; have HO105 := Aside0.mk (Kd.R_lower ho0 (below_size (qB HB.out))); have HO107 := Aside0.mk (Kd.R_lower ho1 (below_size (qB HB.out))); replace HB := Aside0.mk (below_step (qB HB.out) hb); (try clear hb); (try clear hb2); (try clear hk); (try clear hi); (try clear ho0); (try clear ho1)))
  go_ret2
  exact ⟨_, qq2, qqV, qB HB.out⟩
end Go.Proofs.Ytendmmagjjhfnaa.M
