/- The bars as they are played, as the program's iterator hands them to whoever ranges over it. -/
import Derived.Test.YtendmmagjjhfnaaG5
import Derived.RangeFuncNested
import Derived.RangeFuncBound
import Derived.RangeFuncCalls
import Derived.RangeFuncLeaves
import Derived.RangeFuncBox
import Derived.Shelf.RegionOpen
import Derived.OwnWalkIn
import Derived.TacticsInMore
import Derived.LoopNIn
import Derived.LoopIn
import Derived.StillTailTactics
namespace Go.Proofs.Ytendmmagjjhfnaa.M
open Go.RowKit Go.Proofs.YtendmmagjjhfnaaW.PrintWords Go.Proofs.YtendmmagjjhfnaaW.PrintLast Go.Proofs.YtendmmagjjhfnaaW.PrintMore
set_option linter.unusedVariables false
set_option linter.unusedSimpArgs false

/-- What a bar's beginning does. -/
def entersB (q : Wk) (x : S38) : Bool := (x.f0 && decide (q.bar ≠ q.mark)) || (q.closed && decide (x.f2.length = 0))
def enterW (q : Wk) (x : S38) : Wk := if entersB q x = true then q.to q.bar else q
/-- Behind a bar that is not played. -/
def skipW (q : Wk) (x : S38) : Wk := { q with closed := (q.closed || decide (q.jump ≠ 0)) || (decide (x.f1 > 0) && decide (q.pass ≥ x.f1)), bar := q.bar + 1 }
theorem enterW_bar (q : Wk) (x : S38) : (enterW q x).bar = q.bar := by unfold enterW; split <;> rfl
/-- The bars that are handed on, and their passes; true: one more would have been handed on behind two thousand. -/
def wkL (k : Nat) (l : List S38) (s c : Int) : Nat → Wk → List (Int × Int) → Option (List (Int × Int) × Bool)
  | 0, _, _ => none
  | n + 1, q, acc =>
    if q.bar < (l.length : Int) then
      if 0 ≤ q.bar ∧ 0 ≤ q.pass ∧ q.pass ≤ 140737488351232 then
        (stO k l q.bar.toNat (enterW q (rd_T38 l q.bar)).pass (enterW q (rd_T38 l q.bar)).jump (rd_T38 l q.bar)).bind fun b =>
          if b = true then
            if acc.length = 2000 then some (acc, true)
            else match onW s c (enterW q (rd_T38 l q.bar)) (rd_T38 l q.bar) with
              | none => some (acc ++ [(q.bar, (enterW q (rd_T38 l q.bar)).pass)], false)
              | some q2 => wkL k l s c n q2 (acc ++ [(q.bar, (enterW q (rd_T38 l q.bar)).pass)])
          else wkL k l s c n (skipW (enterW q (rd_T38 l q.bar)) (rd_T38 l q.bar)) acc
      else none
    else some (acc, false)

/-- What a round of the loop keeps: whatever is not the loop's own. -/
def KpW (n0 : Nat) (W W' : World) : Prop := W.heap.size ≤ W'.heap.size ∧ (∀ (i : Nat) (cs : Array Value) (t : TypeId) (fr : Nat × Nat), W.heap[i]? = some (.cells cs t fr) → t ≠ 3 → t ≠ 31 → W'.heap[i]? = W.heap[i]?) ∧ Below n0 W W'
/-- What a caller's word abides: new blocks, and stores into the walker's own block. -/
def AbW (n0 : Nat) (J : List (Int × Int) → World → Prop) : Prop :=
  (∀ pre A B, J pre A → Below A.heap.size A B → J pre B) ∧ (∀ pre A B (g : Nat) (cs : Array Value) (fr : Nat × Nat), J pre A → A.heap[g]? = some (.cells cs 71 fr) → n0 ≤ g → KeepBut A B g none → Below n0 A B → J pre B)

attribute [local go_sem] Oper.semAt_some
theorem below_two {n : Nat} {V A B : World} (h1 : Below n V A) (h2 : Below n V B) (hs : A.heap.size ≤ B.heap.size) : Below n A B :=
  ⟨h2.os.trans h1.os.symm, h2.tape.trans h1.tape.symm, h2.output.trans h1.output.symm, hs, fun k hk => (h2.block k hk).trans (h1.block k hk).symm⟩
theorem keep_blk {A B : World} {g i : Nat} {cs : Array Value} {t : TypeId} {fr : Nat × Nat} (hk : KeepBut A B g none) (h : A.heap[i]? = some (.cells cs t fr)) (hne : i ≠ g) : B.heap[i]? = some (.cells cs t fr) :=
  (hk.2 i (lt_of_block h) hne (by simp)).trans h
/-- The caller's word, behind a step that stores into the walker's block alone. -/
theorem J_step {n0 : Nat} {J : List (Int × Int) → World → Prop} (hJ : AbW n0 J) {pre : List (Int × Int)} {V A B : World} (hn : n0 = V.heap.size) {g : Nat} {l : List S38} {s c j : Int} {q : Wk} (h : J pre A) (hI : IsWk V A g l s c j q) (hk : KeepBut A B g none) (h1 : Below V.heap.size V A) (h2 : Below V.heap.size V B) : J pre B := by
  obtain ⟨A0, c0, HG, hg, _⟩ := hI
  subst hn
  exact hJ.2 pre A B g _ _ h HG hg hk (below_two h1 h2 hk.1)

set_option maxHeartbeats 16000000 in
set_option maxRecDepth 100000 in
theorem played_any (n k fuel : Nat) (L Bl : Nat) (A0 : Option Addr) (c0 : Nat) (l : List S38) (s c j : Int) (res : List (Int × Int) × Bool) (J : List (Int × Int) → World → Prop) (Jx : World → Prop) (V w : World)
    (hV : Below V.heap.size V w) (hC : Kd.C k38 V A0 l.length l) (hc0 : l.length ≤ c0) (hm : l.length ≤ 140737488351232) (hBl : w.heap[Bl]? = some (.cells #[.slice A0 l.length c0] 22 (0, 0)))
    (hf : turns_found.f l = some (s, c, j)) (hJ : AbW V.heap.size J)
    (hY : ∀ pre (b p : Int) W, J pre W → YieldAt Fence.wide n Try.prog L #[.int .i64 b, .int .i64 p] W fun e W' =>
      (pre.length ≠ 2000 ∧ e = .returned (.bool true) ∧ J (pre ++ [(b, p)]) W' ∧ KpW V.heap.size W W') ∨ (pre.length = 2000 ∧ e = .returned (.bool false) ∧ Jx W'))
    (h0 : J [] w) (h : wkL k l s c fuel ⟨0, 1, 0, false, 0, false, false⟩ [] = some res) :
    Calls Try.prog 46 #[.func (.yield L) #[] #[], .pointer (some ⟨Bl, 0, none⟩)] w fun e W' => e = .returned (.tuple #[]) ∧ ((res.2 = false ∧ J res.1 W') ∨ (res.2 = true ∧ Jx W')) := by
  have hu38 := Try.underlying38
  have hu71 := Try.underlying71
  have hu49 := Try.underlying49
  have HC := Aside0.mk hC
  have HV := Aside0.mk hV
  have HC0 := Aside0.mk hc0
  have HF := Aside0.mk hf
  have HJ := Aside0.mk hJ
  have HY := Aside0.mk hY
  have H0 := Aside0.mk h0
  have HW := Aside0.mk h
  have HBL := Aside0.mk hBl
  have HM := Aside0.mk hm
  clear hC hV hc0 hf hJ hY h0 h
  have b0 : w.cell? ⟨Bl, 0, none⟩ = some (.slice A0 l.length c0) := (blk_cell hBl 0).trans rfl
  have hBlt : Bl < w.heap.size := lt_of_block hBl
  clear hBl
  go_enter Try.func46, Try.ntmps46
  go_wp2
  go_step3
  go_wp2
  go_cut [3] (fun v3 wc => ∃ g : Nat, v3 = .pointer (some ⟨g, 0, none⟩) ∧ Aside0 (IsWk V wc g l s c j ⟨0, 1, 0, false, 0, false, false⟩) ∧ Aside0 (wc.heap[Bl]? = some (.cells #[.slice A0 l.length c0] 22 (0, 0))) ∧ Aside0 (Below V.heap.size V wc) ∧ Aside0 (J [] wc))
  case first =>
    clear HW HY
    have HBt := Aside0.mk hBlt
    go_region_with ((first | ((with_reducible refine (turns_found.calls A0 c0 l s c j _ (Kd.C_below HC.out (by first | exact HV.out.drew | exact HV.out)) HC0.out HF.out).mono ?_); rintro e w1 ⟨rfl, hb1⟩; have HB1 := Aside0.mk hb1; have b1 : w1.cell? ⟨Bl, 0, none⟩ = some (.slice A0 l.length c0) := (hb1.cell HBt.out).trans b0; clear hb1)))
    all_goals
      have hb1 : Below w.heap.size w w1 := ((Below.refl _ w).drew).trans (show Below w.heap.size w.drew w1 from HB1.out)
      have hv1 : Below V.heap.size V w1 := below_step HV.out hb1
      go_wp2
      go_meet
      case rel => exact ⟨_, rfl, ⟨IsS71.new V w1 A0 c0 l s c j 0 1 0 false 0 false false hv1 HC.out⟩, ⟨((below_alloc hb1 _).block _ hBlt).trans HBL.out⟩, ⟨below_alloc hv1 _⟩, ⟨HJ.out.1 _ _ _ H0.out (below_alloc hb1 _)⟩⟩
  case rest =>
  clear b0 hBlt HBL H0 HV HF
  obtain ⟨g, rfl, HS, HBL, HV, HJ0⟩ := hcut
  go_wp2
  go_step3
  go_wp2
  go_loopg [] fuel (fun fq wr => ∃ (q : Wk) (acc : List (Int × Int)), Aside0 (wkL k l s c fq q acc = some res) ∧ Aside0 (IsWk V wr g l s c j q) ∧ Aside0 (wr.heap[Bl]? = some (.cells #[.slice A0 l.length c0] 22 (0, 0))) ∧ Aside0 (Below V.heap.size V wr) ∧ Aside0 (J acc wr))
  case atStart => exact ⟨_, _, HW, HS, HBL, HV, HJ0⟩
  case round =>
    clear HW HS HBL HV HJ0
    obtain ⟨q, acc, HW, HS, HBL, HV, HJA⟩ := hrel
    cases gk with
    | zero => exact absurd HW.out (by simp [wkL])
    | succ k1 =>
      have hW := HW.out
      clear HW
      obtain ⟨A0', c0', HG, hg, HC'⟩ := HS.out
      have e4 : wr.cell? ⟨g, 4, none⟩ = some (.int .i64 q.bar) := (blk_cell HG 4).trans rfl
      have b0 : wr.cell? ⟨Bl, 0, none⟩ = some (.slice A0 l.length c0) := (blk_cell HBL.out 0).trans rfl
      rw [wkL] at hW
      by_cases hlt : q.bar < (l.length : Int)
      case neg =>
        rw [if_neg hlt] at hW
        obtain rfl := Option.some.inj hW
        have hd : decide (q.bar < (l.length : Int)) = false := decide_eq_false hlt
        clear hW hlt HG HC' hg
        go_wp2
        go_quiet (fail)
        go_wp2
        simp only [Exit.noGoto]
        go_end0
        exact ⟨rfl, .inl ⟨rfl, HJ.out.1 _ _ _ HJA.out (pw_below_drewN (Below.refl _ _) _)⟩⟩
      rw [if_pos hlt] at hW
      by_cases hgd : 0 ≤ q.bar ∧ 0 ≤ q.pass ∧ q.pass ≤ 140737488351232
      case neg => rw [if_neg hgd] at hW; cases hW
      rw [if_pos hgd] at hW
      have HGD := Aside0.mk hgd
      have HLT := Aside0.mk hlt
      obtain ⟨ad, A2, c2, hea, h0, h1, h2, h3, h4, h5, h6, h7, hl2, hC2⟩ := at_T38 HC.out q.bar hgd.1 hlt
      subst hea
      have HL2 := Aside0.mk hl2
      have HC2 := Aside0.mk hC2
      clear hl2 hC2
      obtain ⟨x, hx⟩ : ∃ x, rd_T38 l q.bar = x := ⟨_, rfl⟩
      rw [hx] at h0 h1 h2 h3 h4 h5 h6 h7 HL2 HC2 hW
      have HX := Aside0.mk hx
      have HW := Aside0.mk hW
      clear hx hW HC' hg HG
      replace h0 := (HV.out.cell (World.block_lt_of_cell? _ _ h0)).trans h0
      replace h1 := (HV.out.cell (World.block_lt_of_cell? _ _ h1)).trans h1
      replace h2 := (HV.out.cell (World.block_lt_of_cell? _ _ h2)).trans h2
      replace h3 := (HV.out.cell (World.block_lt_of_cell? _ _ h3)).trans h3
      replace h4 := (HV.out.cell (World.block_lt_of_cell? _ _ h4)).trans h4
      replace h5 := (HV.out.cell (World.block_lt_of_cell? _ _ h5)).trans h5
      replace h6 := (HV.out.cell (World.block_lt_of_cell? _ _ h6)).trans h6
      replace h7 := (HV.out.cell (World.block_lt_of_cell? _ _ h7)).trans h7
      have hd : decide (q.bar < (l.length : Int)) = true := decide_eq_true hlt
      have hq0 : 0 ≤ q.bar := hgd.1
      have hq1 : q.bar < (l.length : Int) := hlt
      have hq2 : q.bar ≤ 140737488351232 := by omega
      clear hgd hlt
      go_wp2
      go_quiet (fail)
      go_wp2
      obtain ⟨W1, hW1⟩ : ∃ W1, wr.drewN nq = W1 := ⟨_, rfl⟩
      have b1 : W1.cell? ⟨Bl, 0, none⟩ = some (.slice (some ad) l.length c0) := by rw [← hW1]; exact b0
      have g4 : W1.cell? ⟨g, 4, none⟩ = some (.int .i64 q.bar) := by rw [← hW1]; exact e4
      have tr : ∀ a v, wr.cell? a = v → W1.cell? a = v := by intro a v h; rw [← hW1]; exact h
      replace h0 := tr _ _ h0
      replace h1 := tr _ _ h1
      replace h2 := tr _ _ h2
      replace h3 := tr _ _ h3
      replace h4 := tr _ _ h4
      replace h5 := tr _ _ h5
      replace h6 := tr _ _ h6
      replace h7 := tr _ _ h7
      clear tr b0 e4
      have lg : g < W1.heap.size := World.block_lt_of_cell? _ _ g4
      have lb : Bl < W1.heap.size := World.block_lt_of_cell? _ _ b1
      have la : (ad.add (q.bar.toNat * 8)).block < W1.heap.size := World.block_lt_of_cell? _ _ h0
      have HS1 : Aside0 (IsWk V W1 g l s c j q) := ⟨by rw [← hW1]; exact IsS71.drewN HS.out _⟩
      have HBL1 : Aside0 (W1.heap[Bl]? = some (.cells #[.slice (some ad) l.length c0] 22 (0, 0))) := ⟨by rw [← hW1]; exact HBL.out⟩
      have HV1 : Aside0 (Below V.heap.size V W1) := ⟨by rw [← hW1]; exact pw_below_drewN HV.out _⟩
      have HJ1 : Aside0 (J acc W1) := ⟨by rw [← hW1]; exact HJ.out.1 _ _ _ HJA.out (pw_below_drewN (Below.refl _ _) _)⟩
      rw [hW1]
      clear hW1 HS HBL HV HJA
      go_cut [4] (fun v4 wc => ∃ B : Nat, v4 = .pointer (some ⟨B, 0, none⟩) ∧ Aside0 (wc.heap[B]? = some (.cells #[.bool x.f0, .int .i64 x.f1, .slice A2 x.f2.length c2, .bool x.f3, .bool x.f4, .bool x.f5, .bool x.f6, .int .i64 x.f7] 38 (0, 0))) ∧ Aside0 (IsWk V wc g l s c j q) ∧ Aside0 (wc.heap[Bl]? = some (.cells #[.slice (some ad) l.length c0] 22 (0, 0))) ∧ Aside0 (Below V.heap.size V wc) ∧ Aside0 (J acc wc))
      case first =>
        clear HW
        go_region
        all_goals
          go_wp2
          go_meet
          case rel => exact ⟨_, rfl, ⟨heap_alloc_new W1 _⟩, ⟨IsS71.drew (IsS71.alloc HS1.out _)⟩, ⟨((below_alloc (Below.refl _ _) _).block _ lb).trans HBL1.out⟩, ⟨below_drew1 (below_alloc HV1.out _)⟩, ⟨HJ.out.1 _ _ _ HJ1.out (below_drew1 (below_alloc (Below.refl _ _) _))⟩⟩
      case rest =>
      clear b1 g4 h0 h1 h2 h3 h4 h5 h6 h7 lg lb la HS1 HBL1 HV1 HJ1
      obtain ⟨B, rfl, HT, HS, HBL, HV, HJA⟩ := hcut
      -- does the bar begin something?
      obtain ⟨A0', c0', HG, hg, _⟩ := HS.out
      have e4 := (blk_cell HG 4).trans (show _ = some (Value.int .i64 q.bar) from rfl)
      have e6 := (blk_cell HG 6).trans (show _ = some (Value.int .i64 q.mark) from rfl)
      have e7 := (blk_cell HG 7).trans (show _ = some (Value.bool q.closed) from rfl)
      have t0 := (blk_cell HT.out 0).trans (show _ = some (Value.bool x.f0) from rfl)
      have t2 := (blk_cell HT.out 2).trans (show _ = some (Value.slice A2 x.f2.length c2) from rfl)
      clear HG hg
      obtain ⟨eb, heb⟩ : ∃ eb, entersB q x = eb := ⟨_, rfl⟩
      have HEB := Aside0.mk heb
      clear heb
      go_upto_region 3 with (fail)
      go_cut [48] (fun v48 wc => v48 = .bool eb ∧ Aside0 (IsWk V wc g l s c j q) ∧ Aside0 (wc.heap[B]? = some (.cells #[.bool x.f0, .int .i64 x.f1, .slice A2 x.f2.length c2, .bool x.f3, .bool x.f4, .bool x.f5, .bool x.f6, .int .i64 x.f7] 38 (0, 0))) ∧ Aside0 (wc.heap[Bl]? = some (.cells #[.slice (some ad) l.length c0] 22 (0, 0))) ∧ Aside0 (Below V.heap.size V wc) ∧ Aside0 (J acc wc))
      case first =>
        clear HW
        cases hf0 : x.f0 <;> cases hcl : q.closed <;> by_cases hbm : q.bar = q.mark <;> by_cases hlen : x.f2.length = 0
        all_goals
          have heb := HEB.out
          unfold entersB at heb
          simp only [hf0, hcl, hbm, hlen, ne_eq, not_true_eq_false, not_false_eq_true, decide_true, decide_false, Bool.and_true, Bool.and_false, Bool.true_and, Bool.false_and, Bool.or_true, Bool.or_false, Bool.true_or, Bool.false_or] at heb
          subst heb
          rw [hf0] at t0
          rw [hcl] at e7
          clear hf0 hcl
          first | have hb1 : (q.bar != q.mark) = true := bne_iff_ne.mpr hbm | have hb1 : (q.bar != q.mark) = false := bne_eq_false_iff_eq.mpr hbm
          first | have hn1 : ((x.f2.length : Int) == 0) = true := beq_iff_eq.mpr (by omega) | have hn1 : ((x.f2.length : Int) == 0) = false := beq_eq_false_iff_ne.mpr (by omega)
          first | have hn2 : (x.f2.length == 0) = true := beq_iff_eq.mpr hlen | have hn2 : (x.f2.length == 0) = false := beq_eq_false_iff_ne.mpr hlen
          clear hbm hlen
          go_quiet (fail)
          go_wp2
          go_meet
          case rel => exact ⟨rfl, ⟨IsS71.drewN HS.out _⟩, HT, HBL, ⟨pw_below_drewN HV.out _⟩, ⟨HJ.out.1 _ _ _ HJA.out (pw_below_drewN (Below.refl _ _) _)⟩⟩
      case rest =>
      clear e4 e6 e7 t0 t2 HS HT HBL HV HJA
      obtain ⟨rfl, HS, HT, HBL, HV, HJA⟩ := hcut
      have nB : B ≠ g := Ne.symm (IsS71.ne_blk HS.out HT.out (by decide))
      have nBl : Bl ≠ g := Ne.symm (IsS71.ne_blk HS.out HBL.out (by decide))
      obtain ⟨q1, hq1⟩ : ∃ q1, enterW q x = q1 := ⟨_, rfl⟩
      have hbar : q1.bar = q.bar := by rw [← hq1]; exact enterW_bar q x
      have hWW := HW.out
      rw [hq1] at hWW
      have HW2 := Aside0.mk hWW
      have HQ1 := Aside0.mk hq1
      have HPP : Aside0 (0 ≤ q1.pass ∧ q1.pass ≤ 140737488351232) := ⟨by
        rw [← hq1]
        unfold enterW
        split
        · exact ⟨(by decide : (0 : Int) ≤ 1), (by decide : (1 : Int) ≤ 140737488351232)⟩
        · exact HGD.out.2⟩
      have HBAR := Aside0.mk hbar
      clear HW hWW hq1 hbar
      go_upto_if 48 with (fail)
      go_cut [] (fun wc => Aside0 (IsWk V wc g l s c j q1) ∧ Aside0 (wc.heap[B]? = some (.cells #[.bool x.f0, .int .i64 x.f1, .slice A2 x.f2.length c2, .bool x.f3, .bool x.f4, .bool x.f5, .bool x.f6, .int .i64 x.f7] 38 (0, 0))) ∧ Aside0 (wc.heap[Bl]? = some (.cells #[.slice (some ad) l.length c0] 22 (0, 0))) ∧ Aside0 (Below V.heap.size V wc) ∧ Aside0 (J acc wc))
      case first =>
        clear HW2
        cases eb with
        | true =>
          obtain ⟨A0', c0', HG, hg, _⟩ := HS.out
          have e4 := (blk_cell HG 4).trans (show _ = some (Value.int .i64 q.bar) from rfl)
          clear HG hg
          have hq1 : q.to q.bar = q1 := by rw [← HQ1.out]; unfold enterW; rw [if_pos HEB.out]
          subst hq1
          go_wp2_with ((with_reducible refine (to_any g l s c j q q.bar V _ HS.out HV.out).mono ?_); rintro e w2 ⟨rfl, hw, hb, hk⟩; have HW2 := Aside0.mk hw; have HB2 := Aside0.mk hb; have HK2 := Aside0.mk hk; clear hw hb hk)
          go_meet
          case rel => exact ⟨HW2, ⟨keep_blk HK2.out HT.out nB⟩, ⟨keep_blk HK2.out HBL.out nBl⟩, HB2, ⟨J_step HJ.out rfl HJA.out HS.out HK2.out HV.out HB2.out⟩⟩
        | false =>
          have hq1 : q = q1 := by rw [← HQ1.out]; unfold enterW; rw [if_neg (by rw [HEB.out]; decide)]
          subst hq1
          go_wp2
          go_meet
          case rel => exact ⟨HS, HT, HBL, HV, HJA⟩
      case rest =>
      clear HS HT HBL HV HJA HEB HQ1
      obtain ⟨HS, HT, HBL, HV, HJA⟩ := hcut
      obtain ⟨bar, pass, mark, closed, jump, fn, cd⟩ := q1
      obtain rfl : bar = q.bar := HBAR.out
      obtain ⟨b, hst, hWb⟩ := Option.bind_eq_some_iff.mp HW2.out
      have HST := Aside0.mk hst
      have HWB := Aside0.mk hWb
      clear HW2 HBAR hst hWb
      have HS' : Aside0 (IsS71 V _ g l s c j ((q.bar.toNat : Nat) : Int) pass mark closed jump fn cd) := ⟨by rw [Int.toNat_of_nonneg hq0]; exact HS.out⟩
      have HXC : Aside0 (Kd.C (Kd.int .i64) V A2 x.f2.length x.f2) := HC2
      have HBT : Aside0 (q.bar.toNat < l.length) := ⟨by omega⟩
      have t0 := (blk_cell HT.out 0).trans (show _ = some (Value.bool x.f0) from rfl)
      have t1 := (blk_cell HT.out 1).trans (show _ = some (Value.int .i64 x.f1) from rfl)
      have t2 := (blk_cell HT.out 2).trans (show _ = some (Value.slice A2 x.f2.length c2) from rfl)
      have t3 := (blk_cell HT.out 3).trans (show _ = some (Value.bool x.f3) from rfl)
      have t4 := (blk_cell HT.out 4).trans (show _ = some (Value.bool x.f4) from rfl)
      have t5 := (blk_cell HT.out 5).trans (show _ = some (Value.bool x.f5) from rfl)
      have t6 := (blk_cell HT.out 6).trans (show _ = some (Value.bool x.f6) from rfl)
      have t7 := (blk_cell HT.out 7).trans (show _ = some (Value.int .i64 x.f7) from rfl)
      cases b with
      | false =>
        go_wp2_with ((with_reducible refine (stands_any k g l s c j q.bar.toNat pass mark closed jump fn cd x A2 c2 false V _ HS'.out HV.out HBT.out HM.out HL2.out HXC.out HST.out).mono ?_); rintro e w5 ⟨rfl, hb5⟩; have HB5 := Aside0.mk hb5; clear hb5)
        have hWn := (if_neg (show ¬ (false = true) by decide)).symm.trans HWB.out
        have HWN := Aside0.mk hWn
        clear HWB hWn t0 t1 t2 t3 t4 t5 t6 t7 HST HS'
        have HS5 : Aside0 (IsWk V w5 g l s c j ⟨q.bar, pass, mark, closed, jump, fn, cd⟩) := ⟨IsS71.below HS.out HB5.out⟩
        have HT5 := Aside0.mk ((HB5.out.block _ (lt_of_block HT.out)).trans HT.out)
        have HBL5 := Aside0.mk ((HB5.out.block _ (lt_of_block HBL.out)).trans HBL.out)
        have HV5 := Aside0.mk (below_step HV.out HB5.out)
        have HJ5 := Aside0.mk (HJ.out.1 _ _ _ HJA.out HB5.out)
        clear HS HT HBL HV HJA HB5
        obtain ⟨cl, hcl⟩ : ∃ cl, ((closed || decide (jump ≠ 0)) || (decide (x.f1 > 0) && decide (pass ≥ x.f1))) = cl := ⟨_, rfl⟩
        have HWN2 : Aside0 (wkL k l s c k1 ⟨q.bar + 1, pass, mark, cl, jump, fn, cd⟩ acc = some res) := ⟨by have h := HWN.out; unfold skipW at h; dsimp only at h; rw [hcl] at h; exact h⟩
        have HCL := Aside0.mk hcl
        clear HWN hcl
        obtain ⟨A0', c0', HG, hg, _⟩ := HS5.out
        have e5 : w5.cell? ⟨g, 5, none⟩ = some (.int .i64 pass) := (blk_cell HG 5).trans rfl
        have e7 : w5.cell? ⟨g, 7, none⟩ = some (.bool closed) := (blk_cell HG 7).trans rfl
        have e8 : w5.cell? ⟨g, 8, none⟩ = some (.int .i64 jump) := (blk_cell HG 8).trans rfl
        have f7 := blk_frozen HG 7
        have t1 : w5.cell? ⟨B, 1, none⟩ = some (.int .i64 x.f1) := (blk_cell HT5.out 1).trans rfl
        clear HG
        have hgV : V.heap.size ≤ g := hg
        clear hg
        go_cut [] (fun wc => Aside0 (IsWk V wc g l s c j ⟨q.bar, pass, mark, cl, jump, fn, cd⟩) ∧ Aside0 (wc.heap[Bl]? = some (.cells #[.slice (some ad) l.length c0] 22 (0, 0))) ∧ Aside0 (Below V.heap.size V wc) ∧ Aside0 (J acc wc))
        case first =>
          clear HWN2
          have hcc : (closed = true) ∨ (closed = false ∧ jump ≠ 0) ∨ (closed = false ∧ jump = 0 ∧ 0 < x.f1) ∨ (closed = false ∧ jump = 0 ∧ ¬ 0 < x.f1) := by
            cases closed
            · by_cases h1 : jump = 0 <;> by_cases h2 : 0 < x.f1 <;> simp [h1, h2]
            · exact .inl rfl
          rcases hcc with hcc | ⟨hcc, hj⟩ | ⟨hcc, hj, hf⟩ | ⟨hcc, hj, hf⟩
          · subst hcc
            obtain rfl : true = cl := by rw [← HCL.out]; simp
            go_region
            all_goals
              go_wp2
              go_meet
              case rel => exact ⟨⟨IsS71.set_7 (IsS71.drew HS5.out) true⟩, ⟨(Below.heap_setCell _ _ _ _ nBl).trans HBL5.out⟩, ⟨below_setg (below_drew1 HV5.out) hgV⟩, ⟨J_step HJ.out rfl HJ5.out HS5.out (keep_set' (keep_drew' (KeepBut.refl _ _ _))) HV5.out (below_setg (below_drew1 HV5.out) hgV)⟩⟩
          · subst hcc
            obtain rfl : true = cl := by rw [← HCL.out]; simp [hj]
            have hjb : (jump != 0) = true := bne_iff_ne.mpr hj
            clear hj
            go_region
            all_goals
              go_wp2
              go_meet
              case rel => exact ⟨⟨IsS71.set_7 (IsS71.drew HS5.out) true⟩, ⟨(Below.heap_setCell _ _ _ _ nBl).trans HBL5.out⟩, ⟨below_setg (below_drew1 HV5.out) hgV⟩, ⟨J_step HJ.out rfl HJ5.out HS5.out (keep_set' (keep_drew' (KeepBut.refl _ _ _))) HV5.out (below_setg (below_drew1 HV5.out) hgV)⟩⟩
          · subst hcc
            subst hj
            obtain rfl : decide (x.f1 ≤ pass) = cl := by rw [← HCL.out]; simp [hf]
            have hfb : decide (0 < x.f1) = true := decide_eq_true hf
            clear hf
            go_region
            all_goals
              go_wp2
              go_meet
              case rel => exact ⟨⟨IsS71.set_7 (IsS71.drew HS5.out) _⟩, ⟨(Below.heap_setCell _ _ _ _ nBl).trans HBL5.out⟩, ⟨below_setg (below_drew1 HV5.out) hgV⟩, ⟨J_step HJ.out rfl HJ5.out HS5.out (keep_set' (keep_drew' (KeepBut.refl _ _ _))) HV5.out (below_setg (below_drew1 HV5.out) hgV)⟩⟩
          · subst hcc
            subst hj
            obtain rfl : false = cl := by rw [← HCL.out]; simp [hf]
            have hfb : decide (0 < x.f1) = false := decide_eq_false hf
            clear hf
            go_region
            all_goals
              go_wp2
              go_meet
              case rel => exact ⟨⟨IsS71.set_7 (IsS71.drew HS5.out) false⟩, ⟨(Below.heap_setCell _ _ _ _ nBl).trans HBL5.out⟩, ⟨below_setg (below_drew1 HV5.out) hgV⟩, ⟨J_step HJ.out rfl HJ5.out HS5.out (keep_set' (keep_drew' (KeepBut.refl _ _ _))) HV5.out (below_setg (below_drew1 HV5.out) hgV)⟩⟩
        case rest =>
        clear e5 e7 e8 f7 t1 HS5 HT5 HBL5 HV5 HJ5
        obtain ⟨HS, HBL, HV, HJA⟩ := hcut
        obtain ⟨A0'', c0'', HG, _, _⟩ := HS.out
        have e4 := (blk_cell HG 4).trans (show _ = some (Value.int .i64 q.bar) from rfl)
        have f4 := blk_frozen HG 4
        clear HG
        have hbw : q.bar + 1 ≤ 140737488351233 := by omega
        go_wp2
        go_roundg k1
        case measure => omega
        case rel => exact ⟨_, _, HWN2, ⟨IsS71.set_4 HS.out _⟩, ⟨(Below.heap_setCell _ _ _ _ nBl).trans HBL.out⟩, ⟨below_setg HV.out hgV⟩, ⟨J_step HJ.out rfl HJA.out HS.out (keep_set' (KeepBut.refl _ _ _)) HV.out (below_setg HV.out hgV)⟩⟩
      | true =>
        have hWt := (if_pos rfl).symm.trans HWB.out
        have HWT := Aside0.mk hWt
        clear HWB hWt
        go_wp2_with ((with_reducible refine (stands_any k g l s c j q.bar.toNat pass mark closed jump fn cd x A2 c2 true V _ HS'.out HV.out HBT.out HM.out HL2.out HXC.out HST.out).mono ?_); rintro e w5 ⟨rfl, hb5⟩; have HB5 := Aside0.mk hb5; clear hb5)
        clear t0 t1 t2 t3 t4 t5 t6 t7 HST HS'
        have HS5 : Aside0 (IsWk V w5 g l s c j ⟨q.bar, pass, mark, closed, jump, fn, cd⟩) := ⟨IsS71.below HS.out HB5.out⟩
        have HT5 := Aside0.mk ((HB5.out.block _ (lt_of_block HT.out)).trans HT.out)
        have HBL5 := Aside0.mk ((HB5.out.block _ (lt_of_block HBL.out)).trans HBL.out)
        have HV5 := Aside0.mk (below_step HV.out HB5.out)
        have HJ5 := Aside0.mk (HJ.out.1 _ _ _ HJA.out HB5.out)
        clear HS HT HBL HV HJA HB5
        obtain ⟨A0', c0', HG, hg, _⟩ := HS5.out
        have e4 : w5.cell? ⟨g, 4, none⟩ = some (.int .i64 q.bar) := (blk_cell HG 4).trans rfl
        have e5 : w5.cell? ⟨g, 5, none⟩ = some (.int .i64 pass) := (blk_cell HG 5).trans rfl
        clear HG hg
        obtain ⟨fnr, tmps, assign, body, hy, hR⟩ := HY.out acc q.bar pass w5.drew (HJ.out.1 _ _ _ HJ5.out (below_drew1 (Below.refl _ _)))
        by_cases hlen : acc.length = 2000
        · have hw := (if_pos hlen).symm.trans HWT.out
          obtain rfl := Option.some.inj hw
          have HR : Aside0 (RoundIn Fence.wide n Try.prog L fnr tmps assign body w5.drew fun e W' => e = .returned (.bool false) ∧ Jx W') := ⟨hR.mono (by rintro e W' (⟨h, _⟩ | ⟨_, h2, h3⟩); exact absurd hlen h; exact ⟨h2, h3⟩)⟩
          clear hR hw hlen HWT HY
          refine (wpIn_wide (n := n + 1)).1 ?_
          refine wpIn_region_any (by kernel_rfl) ?_
          change wpAnyIn _ _ _ _ _ _ _ _ _ (World.drew _)
          refine wpAnyIn_take (i := 0) (v := ?_) rfl rfl (by kernel_rfl) (by kernel_rfl) (by kernel_rfl) (fun _ _ _ h => h) ⟨Or.inl ⟨by rfl, ?_⟩, fun _ => rfl⟩ ?_
          rotate_left
          · intro w
            go_simp
            first | done | with_reducible rfl
          refine wpAnyIn_take (i := 1) (v := ?_) rfl rfl (by kernel_rfl) (by kernel_rfl) (by kernel_rfl) (fun _ _ _ h => h) ⟨Or.inl ⟨by rfl, ?_⟩, fun _ => rfl⟩ ?_
          rotate_left
          · intro w
            go_simp
            first | done | with_reducible rfl
          refine wpAnyIn_take (i := 2) (v := ?_) rfl rfl (by kernel_rfl) (by kernel_rfl) (by kernel_rfl) (fun _ _ _ h => h) ⟨Or.inl ⟨by rfl, ?_⟩, fun _ => rfl⟩ ?_
          rotate_left
          · intro w
            go_simp
            first | done | with_reducible rfl
          refine wpAnyIn_take (i := 3) (v := ?_) rfl rfl (by kernel_rfl) (by kernel_rfl) (by kernel_rfl) (fun _ _ _ h => h) ⟨Or.inl ⟨by rfl, ?_⟩, fun _ => rfl⟩ ?_
          rotate_left
          · intro w
            go_simp
            first | done | with_reducible rfl
          refine wpAnyIn_take (i := 5) (v := ?_) rfl rfl (by kernel_rfl) (by kernel_rfl) (by kernel_rfl) (fun _ _ _ h => h) ⟨Or.inl ⟨by rfl, ?_⟩, fun _ => rfl⟩ ?_
          rotate_left
          · intro w
            go_simp
            first | done | with_reducible rfl
          refine wpAnyIn_take (i := 6) (v := ?_) rfl rfl (by kernel_rfl) (by kernel_rfl) (by kernel_rfl) (fun _ _ _ h => h) ⟨Or.inl ⟨by rfl, ?_⟩, fun _ => rfl⟩ ?_
          rotate_left
          · intro w
            go_simp
            first | done | with_reducible rfl
          refine wpAnyIn_take (i := 7) (v := ?_) rfl rfl (by kernel_rfl) (by kernel_rfl) (by kernel_rfl) (fun _ _ _ h => h) ⟨Or.inl ⟨by rfl, ?_⟩, fun _ => rfl⟩ ?_
          rotate_left
          · intro w
            go_simp
            first | done | with_reducible rfl
          refine wpAnyIn_ready (rs := [4, 8]) (by kernel_rfl) (by simp) ?_
          refine AllReadyIn.cons rfl (fun K hK => ?_) ?_
          · go_simp
            refine hK _ _ ?_
            clear hK K
            refine wpAnyIn_ready (rs := [8]) (by kernel_rfl) (by simp) ?_
            refine AllReadyIn.cons rfl (fun K hK => ?_) ?_
            · go_simp
              refine hK _ _ ?_
              clear hK K
              refine wpAnyIn_ready (rs := [9]) (by kernel_rfl) (by simp) ?_
              refine AllReadyIn.cons rfl (fun K hK => ?_) ?_
              · go_simp
                refine HR.out.mono ?_
                rintro e W' ⟨rfl, hjx⟩
                have HJX := Aside0.mk hjx
                clear hjx
                refine hK _ _ ?_
                clear hK K
                refine wpAnyIn_take (i := 10) (v := ?_) rfl rfl (by kernel_rfl) (by kernel_rfl) (by kernel_rfl) (fun _ _ _ h => h) ⟨Or.inl ⟨by rfl, ?_⟩, fun _ => rfl⟩ ?_
                rotate_left
                · intro w
                  go_simp
                  first | done | with_reducible rfl
                refine wpAnyIn_take (i := 11) (v := ?_) rfl rfl (by kernel_rfl) (by kernel_rfl) (by kernel_rfl) (fun _ _ _ h => h) ⟨Or.inl ⟨by rfl, ?_⟩, fun _ => rfl⟩ ?_
                rotate_left
                · intro w
                  go_simp
                  first | done | with_reducible rfl
                refine wpAnyIn_take (i := 12) (v := undef) rfl rfl (by kernel_rfl) (by kernel_rfl) (by kernel_rfl) (fun _ _ _ h => h) ⟨Or.inr ⟨by rfl, rfl⟩, fun _ => rfl⟩ ?_
                refine wpAnyIn_ready (rs := [13]) (by kernel_rfl) (by simp) ?_
                refine AllReadyIn.cons rfl (fun K hK => ?_) ?_
                · go_simp
                  refine hK _ _ ?_
                  clear hK K
                  refine wpAnyIn_ready (rs := [14]) (by kernel_rfl) (by simp) ?_
                  refine AllReadyIn.cons rfl (fun K hK => ?_) ?_
                  · go_simp
                    refine ⟨trivial, ?_⟩
                    refine hK _ _ ?_
                    clear hK K
                    refine wpAnyIn_take (i := 15) (v := undef) rfl rfl (by kernel_rfl) (by kernel_rfl) (by kernel_rfl) (fun _ _ _ h => h) ⟨Or.inr ⟨by rfl, rfl⟩, fun _ => rfl⟩ ?_
                    refine wpAnyIn_take (i := 16) (v := ?_) rfl rfl (by kernel_rfl) (by kernel_rfl) (by kernel_rfl) (fun _ _ _ h => h) ⟨Or.inl ⟨by rfl, ?_⟩, fun _ => rfl⟩ ?_
                    rotate_left
                    · intro w
                      go_simp
                      first | done | with_reducible rfl
                    refine wpAnyIn_done (by kernel_rfl) ?_ _
                    simp only [Act.put, List.setIfInBounds_toArray, List.set_cons_zero, List.set_cons_succ]
                    go_wp2
                    all_goals
                      refine bodyPost_ret (results_none rfl _ _ _) rfl ?_
                      first | exact ⟨rfl, HJX.out⟩ | exact ⟨rfl, .inr ⟨rfl, HJX.out⟩⟩
                  exact AllReadyIn.nil
                exact AllReadyIn.nil
              exact AllReadyIn.nil
            exact AllReadyIn.nil
          refine AllReadyIn.cons rfl (fun K hK => ?_) ?_
          · go_simp
            refine hK _ _ ?_
            clear hK K
            refine wpAnyIn_ready (rs := [4]) (by kernel_rfl) (by simp) ?_
            refine AllReadyIn.cons rfl (fun K hK => ?_) ?_
            · go_simp
              refine hK _ _ ?_
              clear hK K
              refine wpAnyIn_ready (rs := [9]) (by kernel_rfl) (by simp) ?_
              refine AllReadyIn.cons rfl (fun K hK => ?_) ?_
              · go_simp
                refine HR.out.mono ?_
                rintro e W' ⟨rfl, hjx⟩
                have HJX := Aside0.mk hjx
                clear hjx
                refine hK _ _ ?_
                clear hK K
                refine wpAnyIn_take (i := 10) (v := ?_) rfl rfl (by kernel_rfl) (by kernel_rfl) (by kernel_rfl) (fun _ _ _ h => h) ⟨Or.inl ⟨by rfl, ?_⟩, fun _ => rfl⟩ ?_
                rotate_left
                · intro w
                  go_simp
                  first | done | with_reducible rfl
                refine wpAnyIn_take (i := 11) (v := ?_) rfl rfl (by kernel_rfl) (by kernel_rfl) (by kernel_rfl) (fun _ _ _ h => h) ⟨Or.inl ⟨by rfl, ?_⟩, fun _ => rfl⟩ ?_
                rotate_left
                · intro w
                  go_simp
                  first | done | with_reducible rfl
                refine wpAnyIn_take (i := 12) (v := undef) rfl rfl (by kernel_rfl) (by kernel_rfl) (by kernel_rfl) (fun _ _ _ h => h) ⟨Or.inr ⟨by rfl, rfl⟩, fun _ => rfl⟩ ?_
                refine wpAnyIn_ready (rs := [13]) (by kernel_rfl) (by simp) ?_
                refine AllReadyIn.cons rfl (fun K hK => ?_) ?_
                · go_simp
                  refine hK _ _ ?_
                  clear hK K
                  refine wpAnyIn_ready (rs := [14]) (by kernel_rfl) (by simp) ?_
                  refine AllReadyIn.cons rfl (fun K hK => ?_) ?_
                  · go_simp
                    refine ⟨trivial, ?_⟩
                    refine hK _ _ ?_
                    clear hK K
                    refine wpAnyIn_take (i := 15) (v := undef) rfl rfl (by kernel_rfl) (by kernel_rfl) (by kernel_rfl) (fun _ _ _ h => h) ⟨Or.inr ⟨by rfl, rfl⟩, fun _ => rfl⟩ ?_
                    refine wpAnyIn_take (i := 16) (v := ?_) rfl rfl (by kernel_rfl) (by kernel_rfl) (by kernel_rfl) (fun _ _ _ h => h) ⟨Or.inl ⟨by rfl, ?_⟩, fun _ => rfl⟩ ?_
                    rotate_left
                    · intro w
                      go_simp
                      first | done | with_reducible rfl
                    refine wpAnyIn_done (by kernel_rfl) ?_ _
                    simp only [Act.put, List.setIfInBounds_toArray, List.set_cons_zero, List.set_cons_succ]
                    go_wp2
                    all_goals
                      refine bodyPost_ret (results_none rfl _ _ _) rfl ?_
                      first | exact ⟨rfl, HJX.out⟩ | exact ⟨rfl, .inr ⟨rfl, HJX.out⟩⟩
                  exact AllReadyIn.nil
                exact AllReadyIn.nil
              exact AllReadyIn.nil
            exact AllReadyIn.nil
          exact AllReadyIn.nil
        · have hw := (if_neg hlen).symm.trans HWT.out
          have HR : Aside0 (RoundIn Fence.wide n Try.prog L fnr tmps assign body w5.drew fun e W' => e = .returned (.bool true) ∧ J (acc ++ [(q.bar, pass)]) W' ∧ KpW V.heap.size w5.drew W') := ⟨hR.mono (by rintro e W' (⟨_, h2, h3, h4⟩ | ⟨h, _⟩); exact ⟨h2, h3, h4⟩; exact absurd h hlen)⟩
          clear hR hlen HWT HY
          have hgV : V.heap.size ≤ g := IsS71.ge HS5.out
          obtain ⟨rr, hon⟩ : ∃ rr, onW s c ⟨q.bar, pass, mark, closed, jump, fn, cd⟩ x = rr := ⟨_, rfl⟩
          rw [hon] at hw
          have HON := Aside0.mk hon
          clear hon
          cases rr with
          | none =>
            obtain rfl := Option.some.inj hw
            clear hw
            refine (wpIn_wide (n := n + 1)).1 ?_
            refine wpIn_region_any (by kernel_rfl) ?_
            change wpAnyIn _ _ _ _ _ _ _ _ _ (World.drew _)
            refine wpAnyIn_take (i := 0) (v := ?_) rfl rfl (by kernel_rfl) (by kernel_rfl) (by kernel_rfl) (fun _ _ _ h => h) ⟨Or.inl ⟨by rfl, ?_⟩, fun _ => rfl⟩ ?_
            rotate_left
            · intro w
              go_simp
              first | done | with_reducible rfl
            refine wpAnyIn_take (i := 1) (v := ?_) rfl rfl (by kernel_rfl) (by kernel_rfl) (by kernel_rfl) (fun _ _ _ h => h) ⟨Or.inl ⟨by rfl, ?_⟩, fun _ => rfl⟩ ?_
            rotate_left
            · intro w
              go_simp
              first | done | with_reducible rfl
            refine wpAnyIn_take (i := 2) (v := ?_) rfl rfl (by kernel_rfl) (by kernel_rfl) (by kernel_rfl) (fun _ _ _ h => h) ⟨Or.inl ⟨by rfl, ?_⟩, fun _ => rfl⟩ ?_
            rotate_left
            · intro w
              go_simp
              first | done | with_reducible rfl
            refine wpAnyIn_take (i := 3) (v := ?_) rfl rfl (by kernel_rfl) (by kernel_rfl) (by kernel_rfl) (fun _ _ _ h => h) ⟨Or.inl ⟨by rfl, ?_⟩, fun _ => rfl⟩ ?_
            rotate_left
            · intro w
              go_simp
              first | done | with_reducible rfl
            refine wpAnyIn_take (i := 5) (v := ?_) rfl rfl (by kernel_rfl) (by kernel_rfl) (by kernel_rfl) (fun _ _ _ h => h) ⟨Or.inl ⟨by rfl, ?_⟩, fun _ => rfl⟩ ?_
            rotate_left
            · intro w
              go_simp
              first | done | with_reducible rfl
            refine wpAnyIn_take (i := 6) (v := ?_) rfl rfl (by kernel_rfl) (by kernel_rfl) (by kernel_rfl) (fun _ _ _ h => h) ⟨Or.inl ⟨by rfl, ?_⟩, fun _ => rfl⟩ ?_
            rotate_left
            · intro w
              go_simp
              first | done | with_reducible rfl
            refine wpAnyIn_take (i := 7) (v := ?_) rfl rfl (by kernel_rfl) (by kernel_rfl) (by kernel_rfl) (fun _ _ _ h => h) ⟨Or.inl ⟨by rfl, ?_⟩, fun _ => rfl⟩ ?_
            rotate_left
            · intro w
              go_simp
              first | done | with_reducible rfl
            refine wpAnyIn_ready (rs := [4, 8]) (by kernel_rfl) (by simp) ?_
            refine AllReadyIn.cons rfl (fun K hK => ?_) ?_
            · go_simp
              refine hK _ _ ?_
              clear hK K
              refine wpAnyIn_ready (rs := [8]) (by kernel_rfl) (by simp) ?_
              refine AllReadyIn.cons rfl (fun K hK => ?_) ?_
              · go_simp
                refine hK _ _ ?_
                clear hK K
                refine wpAnyIn_ready (rs := [9]) (by kernel_rfl) (by simp) ?_
                refine AllReadyIn.cons rfl (fun K hK => ?_) ?_
                · go_simp
                  refine HR.out.mono ?_
                  rintro e W' ⟨rfl, hj', hk'⟩
                  obtain ⟨A0x, c0x, HGx, hgx, hCx⟩ := HS5.out
                  have HS7 : Aside0 (IsWk V W' g l s c j ⟨q.bar, pass, mark, closed, jump, fn, cd⟩) := ⟨⟨A0x, c0x, (hk'.2.1 g _ 71 _ HGx (by decide) (by decide)).trans HGx, hgx, hCx⟩⟩
                  have HT7 := Aside0.mk ((hk'.2.1 B _ 38 _ HT5.out (by decide) (by decide)).trans HT5.out)
                  have HBL7 := Aside0.mk ((hk'.2.1 Bl _ 22 _ HBL5.out (by decide) (by decide)).trans HBL5.out)
                  have HV7 : Aside0 (Below V.heap.size V W') := ⟨(below_drew1 HV5.out).trans hk'.2.2⟩
                  have HJ7 := Aside0.mk hj'
                  clear hj' hk' HGx hgx hCx
                  have t0 : W'.cell? ⟨B, 0, none⟩ = some (.bool x.f0) := (blk_cell HT7.out 0).trans rfl
                  have t1 : W'.cell? ⟨B, 1, none⟩ = some (.int .i64 x.f1) := (blk_cell HT7.out 1).trans rfl
                  have t2 : W'.cell? ⟨B, 2, none⟩ = some (.slice A2 x.f2.length c2) := (blk_cell HT7.out 2).trans rfl
                  have t3 : W'.cell? ⟨B, 3, none⟩ = some (.bool x.f3) := (blk_cell HT7.out 3).trans rfl
                  have t4 : W'.cell? ⟨B, 4, none⟩ = some (.bool x.f4) := (blk_cell HT7.out 4).trans rfl
                  have t5 : W'.cell? ⟨B, 5, none⟩ = some (.bool x.f5) := (blk_cell HT7.out 5).trans rfl
                  have t6 : W'.cell? ⟨B, 6, none⟩ = some (.bool x.f6) := (blk_cell HT7.out 6).trans rfl
                  have t7 : W'.cell? ⟨B, 7, none⟩ = some (.int .i64 x.f7) := (blk_cell HT7.out 7).trans rfl
                  refine hK _ _ ?_
                  clear hK K
                  refine wpAnyIn_take (i := 10) (v := ?_) rfl rfl (by kernel_rfl) (by kernel_rfl) (by kernel_rfl) (fun _ _ _ h => h) ⟨Or.inl ⟨by rfl, ?_⟩, fun _ => rfl⟩ ?_
                  rotate_left
                  · intro w
                    go_simp
                    first | done | with_reducible rfl
                  refine wpAnyIn_take (i := 11) (v := ?_) rfl rfl (by kernel_rfl) (by kernel_rfl) (by kernel_rfl) (fun _ _ _ h => h) ⟨Or.inl ⟨by rfl, ?_⟩, fun _ => rfl⟩ ?_
                  rotate_left
                  · intro w
                    go_simp
                    first | done | with_reducible rfl
                  refine wpAnyIn_take (i := 12) (v := ?_) rfl rfl (by kernel_rfl) (by kernel_rfl) (by kernel_rfl) (fun _ _ _ h => h) ⟨Or.inl ⟨by rfl, ?_⟩, fun _ => rfl⟩ ?_
                  rotate_left
                  · intro w
                    go_simp
                    first | done | with_reducible rfl
                  refine wpAnyIn_ready (rs := [13]) (by kernel_rfl) (by simp) ?_
                  refine AllReadyIn.cons rfl (fun K hK => ?_) ?_
                  · go_simp
                    refine hK _ _ ?_
                    clear hK K
                    refine wpAnyIn_ready (rs := [14]) (by kernel_rfl) (by simp) ?_
                    refine AllReadyIn.cons rfl (fun K hK => ?_) ?_
                    · go_simp
                      refine ⟨trivial, ?_⟩
                      refine (callsIn_wide.2 (on_any g l s c j ⟨q.bar, pass, mark, closed, jump, fn, cd⟩ x A2 c2 none V W' HS7.out HV7.out hq0 hq2 HPP.out.1 HPP.out.2 HON.out)).mono ?_
                      rintro e w7 ⟨rfl, hw7, hb7, hk7⟩
                      have HS8 := Aside0.mk hw7
                      have HV8 := Aside0.mk hb7
                      have HK8 := Aside0.mk hk7
                      clear hw7 hb7 hk7 t0 t1 t2 t3 t4 t5 t6 t7
                      refine hK _ _ ?_
                      clear hK K
                      refine wpAnyIn_take (i := 15) (v := ?_) rfl rfl (by kernel_rfl) (by kernel_rfl) (by kernel_rfl) (fun _ _ _ h => h) ⟨Or.inl ⟨by rfl, ?_⟩, fun _ => rfl⟩ ?_
                      rotate_left
                      · intro w
                        go_simp
                        first | done | with_reducible rfl
                      refine wpAnyIn_take (i := 16) (v := ?_) rfl rfl (by kernel_rfl) (by kernel_rfl) (by kernel_rfl) (fun _ _ _ h => h) ⟨Or.inl ⟨by rfl, ?_⟩, fun _ => rfl⟩ ?_
                      rotate_left
                      · intro w
                        go_simp
                        first | done | with_reducible rfl
                      refine wpAnyIn_done (by kernel_rfl) ?_ _
                      simp only [Act.put, List.setIfInBounds_toArray, List.set_cons_zero, List.set_cons_succ]
                      go_wp2
                      all_goals
                        refine bodyPost_ret (results_none rfl _ _ _) rfl ?_
                        have hj8 := J_step HJ.out rfl HJ7.out HS7.out HK8.out HV7.out HV8.out
                        first | exact ⟨rfl, hj8⟩ | exact ⟨rfl, .inl ⟨rfl, hj8⟩⟩
                    exact AllReadyIn.nil
                  exact AllReadyIn.nil
                exact AllReadyIn.nil
              exact AllReadyIn.nil
            refine AllReadyIn.cons rfl (fun K hK => ?_) ?_
            · go_simp
              refine hK _ _ ?_
              clear hK K
              refine wpAnyIn_ready (rs := [4]) (by kernel_rfl) (by simp) ?_
              refine AllReadyIn.cons rfl (fun K hK => ?_) ?_
              · go_simp
                refine hK _ _ ?_
                clear hK K
                refine wpAnyIn_ready (rs := [9]) (by kernel_rfl) (by simp) ?_
                refine AllReadyIn.cons rfl (fun K hK => ?_) ?_
                · go_simp
                  refine HR.out.mono ?_
                  rintro e W' ⟨rfl, hj', hk'⟩
                  obtain ⟨A0x, c0x, HGx, hgx, hCx⟩ := HS5.out
                  have HS7 : Aside0 (IsWk V W' g l s c j ⟨q.bar, pass, mark, closed, jump, fn, cd⟩) := ⟨⟨A0x, c0x, (hk'.2.1 g _ 71 _ HGx (by decide) (by decide)).trans HGx, hgx, hCx⟩⟩
                  have HT7 := Aside0.mk ((hk'.2.1 B _ 38 _ HT5.out (by decide) (by decide)).trans HT5.out)
                  have HBL7 := Aside0.mk ((hk'.2.1 Bl _ 22 _ HBL5.out (by decide) (by decide)).trans HBL5.out)
                  have HV7 : Aside0 (Below V.heap.size V W') := ⟨(below_drew1 HV5.out).trans hk'.2.2⟩
                  have HJ7 := Aside0.mk hj'
                  clear hj' hk' HGx hgx hCx
                  have t0 : W'.cell? ⟨B, 0, none⟩ = some (.bool x.f0) := (blk_cell HT7.out 0).trans rfl
                  have t1 : W'.cell? ⟨B, 1, none⟩ = some (.int .i64 x.f1) := (blk_cell HT7.out 1).trans rfl
                  have t2 : W'.cell? ⟨B, 2, none⟩ = some (.slice A2 x.f2.length c2) := (blk_cell HT7.out 2).trans rfl
                  have t3 : W'.cell? ⟨B, 3, none⟩ = some (.bool x.f3) := (blk_cell HT7.out 3).trans rfl
                  have t4 : W'.cell? ⟨B, 4, none⟩ = some (.bool x.f4) := (blk_cell HT7.out 4).trans rfl
                  have t5 : W'.cell? ⟨B, 5, none⟩ = some (.bool x.f5) := (blk_cell HT7.out 5).trans rfl
                  have t6 : W'.cell? ⟨B, 6, none⟩ = some (.bool x.f6) := (blk_cell HT7.out 6).trans rfl
                  have t7 : W'.cell? ⟨B, 7, none⟩ = some (.int .i64 x.f7) := (blk_cell HT7.out 7).trans rfl
                  refine hK _ _ ?_
                  clear hK K
                  refine wpAnyIn_take (i := 10) (v := ?_) rfl rfl (by kernel_rfl) (by kernel_rfl) (by kernel_rfl) (fun _ _ _ h => h) ⟨Or.inl ⟨by rfl, ?_⟩, fun _ => rfl⟩ ?_
                  rotate_left
                  · intro w
                    go_simp
                    first | done | with_reducible rfl
                  refine wpAnyIn_take (i := 11) (v := ?_) rfl rfl (by kernel_rfl) (by kernel_rfl) (by kernel_rfl) (fun _ _ _ h => h) ⟨Or.inl ⟨by rfl, ?_⟩, fun _ => rfl⟩ ?_
                  rotate_left
                  · intro w
                    go_simp
                    first | done | with_reducible rfl
                  refine wpAnyIn_take (i := 12) (v := ?_) rfl rfl (by kernel_rfl) (by kernel_rfl) (by kernel_rfl) (fun _ _ _ h => h) ⟨Or.inl ⟨by rfl, ?_⟩, fun _ => rfl⟩ ?_
                  rotate_left
                  · intro w
                    go_simp
                    first | done | with_reducible rfl
                  refine wpAnyIn_ready (rs := [13]) (by kernel_rfl) (by simp) ?_
                  refine AllReadyIn.cons rfl (fun K hK => ?_) ?_
                  · go_simp
                    refine hK _ _ ?_
                    clear hK K
                    refine wpAnyIn_ready (rs := [14]) (by kernel_rfl) (by simp) ?_
                    refine AllReadyIn.cons rfl (fun K hK => ?_) ?_
                    · go_simp
                      refine ⟨trivial, ?_⟩
                      refine (callsIn_wide.2 (on_any g l s c j ⟨q.bar, pass, mark, closed, jump, fn, cd⟩ x A2 c2 none V W' HS7.out HV7.out hq0 hq2 HPP.out.1 HPP.out.2 HON.out)).mono ?_
                      rintro e w7 ⟨rfl, hw7, hb7, hk7⟩
                      have HS8 := Aside0.mk hw7
                      have HV8 := Aside0.mk hb7
                      have HK8 := Aside0.mk hk7
                      clear hw7 hb7 hk7 t0 t1 t2 t3 t4 t5 t6 t7
                      refine hK _ _ ?_
                      clear hK K
                      refine wpAnyIn_take (i := 15) (v := ?_) rfl rfl (by kernel_rfl) (by kernel_rfl) (by kernel_rfl) (fun _ _ _ h => h) ⟨Or.inl ⟨by rfl, ?_⟩, fun _ => rfl⟩ ?_
                      rotate_left
                      · intro w
                        go_simp
                        first | done | with_reducible rfl
                      refine wpAnyIn_take (i := 16) (v := ?_) rfl rfl (by kernel_rfl) (by kernel_rfl) (by kernel_rfl) (fun _ _ _ h => h) ⟨Or.inl ⟨by rfl, ?_⟩, fun _ => rfl⟩ ?_
                      rotate_left
                      · intro w
                        go_simp
                        first | done | with_reducible rfl
                      refine wpAnyIn_done (by kernel_rfl) ?_ _
                      simp only [Act.put, List.setIfInBounds_toArray, List.set_cons_zero, List.set_cons_succ]
                      go_wp2
                      all_goals
                        refine bodyPost_ret (results_none rfl _ _ _) rfl ?_
                        have hj8 := J_step HJ.out rfl HJ7.out HS7.out HK8.out HV7.out HV8.out
                        first | exact ⟨rfl, hj8⟩ | exact ⟨rfl, .inl ⟨rfl, hj8⟩⟩
                    exact AllReadyIn.nil
                  exact AllReadyIn.nil
                exact AllReadyIn.nil
              exact AllReadyIn.nil
            exact AllReadyIn.nil
          | some q2 =>
            have HWS := Aside0.mk hw
            clear hw
            refine (wpIn_wide (n := n + 1)).1 ?_
            refine wpIn_region_any (by kernel_rfl) ?_
            change wpAnyIn _ _ _ _ _ _ _ _ _ (World.drew _)
            refine wpAnyIn_take (i := 0) (v := ?_) rfl rfl (by kernel_rfl) (by kernel_rfl) (by kernel_rfl) (fun _ _ _ h => h) ⟨Or.inl ⟨by rfl, ?_⟩, fun _ => rfl⟩ ?_
            rotate_left
            · intro w
              go_simp
              first | done | with_reducible rfl
            refine wpAnyIn_take (i := 1) (v := ?_) rfl rfl (by kernel_rfl) (by kernel_rfl) (by kernel_rfl) (fun _ _ _ h => h) ⟨Or.inl ⟨by rfl, ?_⟩, fun _ => rfl⟩ ?_
            rotate_left
            · intro w
              go_simp
              first | done | with_reducible rfl
            refine wpAnyIn_take (i := 2) (v := ?_) rfl rfl (by kernel_rfl) (by kernel_rfl) (by kernel_rfl) (fun _ _ _ h => h) ⟨Or.inl ⟨by rfl, ?_⟩, fun _ => rfl⟩ ?_
            rotate_left
            · intro w
              go_simp
              first | done | with_reducible rfl
            refine wpAnyIn_take (i := 3) (v := ?_) rfl rfl (by kernel_rfl) (by kernel_rfl) (by kernel_rfl) (fun _ _ _ h => h) ⟨Or.inl ⟨by rfl, ?_⟩, fun _ => rfl⟩ ?_
            rotate_left
            · intro w
              go_simp
              first | done | with_reducible rfl
            refine wpAnyIn_take (i := 5) (v := ?_) rfl rfl (by kernel_rfl) (by kernel_rfl) (by kernel_rfl) (fun _ _ _ h => h) ⟨Or.inl ⟨by rfl, ?_⟩, fun _ => rfl⟩ ?_
            rotate_left
            · intro w
              go_simp
              first | done | with_reducible rfl
            refine wpAnyIn_take (i := 6) (v := ?_) rfl rfl (by kernel_rfl) (by kernel_rfl) (by kernel_rfl) (fun _ _ _ h => h) ⟨Or.inl ⟨by rfl, ?_⟩, fun _ => rfl⟩ ?_
            rotate_left
            · intro w
              go_simp
              first | done | with_reducible rfl
            refine wpAnyIn_take (i := 7) (v := ?_) rfl rfl (by kernel_rfl) (by kernel_rfl) (by kernel_rfl) (fun _ _ _ h => h) ⟨Or.inl ⟨by rfl, ?_⟩, fun _ => rfl⟩ ?_
            rotate_left
            · intro w
              go_simp
              first | done | with_reducible rfl
            refine wpAnyIn_ready (rs := [4, 8]) (by kernel_rfl) (by simp) ?_
            refine AllReadyIn.cons rfl (fun K hK => ?_) ?_
            · go_simp
              refine hK _ _ ?_
              clear hK K
              refine wpAnyIn_ready (rs := [8]) (by kernel_rfl) (by simp) ?_
              refine AllReadyIn.cons rfl (fun K hK => ?_) ?_
              · go_simp
                refine hK _ _ ?_
                clear hK K
                refine wpAnyIn_ready (rs := [9]) (by kernel_rfl) (by simp) ?_
                refine AllReadyIn.cons rfl (fun K hK => ?_) ?_
                · go_simp
                  refine HR.out.mono ?_
                  rintro e W' ⟨rfl, hj', hk'⟩
                  obtain ⟨A0x, c0x, HGx, hgx, hCx⟩ := HS5.out
                  have HS7 : Aside0 (IsWk V W' g l s c j ⟨q.bar, pass, mark, closed, jump, fn, cd⟩) := ⟨⟨A0x, c0x, (hk'.2.1 g _ 71 _ HGx (by decide) (by decide)).trans HGx, hgx, hCx⟩⟩
                  have HT7 := Aside0.mk ((hk'.2.1 B _ 38 _ HT5.out (by decide) (by decide)).trans HT5.out)
                  have HBL7 := Aside0.mk ((hk'.2.1 Bl _ 22 _ HBL5.out (by decide) (by decide)).trans HBL5.out)
                  have HV7 : Aside0 (Below V.heap.size V W') := ⟨(below_drew1 HV5.out).trans hk'.2.2⟩
                  have HJ7 := Aside0.mk hj'
                  clear hj' hk' HGx hgx hCx
                  have t0 : W'.cell? ⟨B, 0, none⟩ = some (.bool x.f0) := (blk_cell HT7.out 0).trans rfl
                  have t1 : W'.cell? ⟨B, 1, none⟩ = some (.int .i64 x.f1) := (blk_cell HT7.out 1).trans rfl
                  have t2 : W'.cell? ⟨B, 2, none⟩ = some (.slice A2 x.f2.length c2) := (blk_cell HT7.out 2).trans rfl
                  have t3 : W'.cell? ⟨B, 3, none⟩ = some (.bool x.f3) := (blk_cell HT7.out 3).trans rfl
                  have t4 : W'.cell? ⟨B, 4, none⟩ = some (.bool x.f4) := (blk_cell HT7.out 4).trans rfl
                  have t5 : W'.cell? ⟨B, 5, none⟩ = some (.bool x.f5) := (blk_cell HT7.out 5).trans rfl
                  have t6 : W'.cell? ⟨B, 6, none⟩ = some (.bool x.f6) := (blk_cell HT7.out 6).trans rfl
                  have t7 : W'.cell? ⟨B, 7, none⟩ = some (.int .i64 x.f7) := (blk_cell HT7.out 7).trans rfl
                  refine hK _ _ ?_
                  clear hK K
                  refine wpAnyIn_take (i := 10) (v := ?_) rfl rfl (by kernel_rfl) (by kernel_rfl) (by kernel_rfl) (fun _ _ _ h => h) ⟨Or.inl ⟨by rfl, ?_⟩, fun _ => rfl⟩ ?_
                  rotate_left
                  · intro w
                    go_simp
                    first | done | with_reducible rfl
                  refine wpAnyIn_take (i := 11) (v := ?_) rfl rfl (by kernel_rfl) (by kernel_rfl) (by kernel_rfl) (fun _ _ _ h => h) ⟨Or.inl ⟨by rfl, ?_⟩, fun _ => rfl⟩ ?_
                  rotate_left
                  · intro w
                    go_simp
                    first | done | with_reducible rfl
                  refine wpAnyIn_take (i := 12) (v := ?_) rfl rfl (by kernel_rfl) (by kernel_rfl) (by kernel_rfl) (fun _ _ _ h => h) ⟨Or.inl ⟨by rfl, ?_⟩, fun _ => rfl⟩ ?_
                  rotate_left
                  · intro w
                    go_simp
                    first | done | with_reducible rfl
                  refine wpAnyIn_ready (rs := [13]) (by kernel_rfl) (by simp) ?_
                  refine AllReadyIn.cons rfl (fun K hK => ?_) ?_
                  · go_simp
                    refine hK _ _ ?_
                    clear hK K
                    refine wpAnyIn_ready (rs := [14]) (by kernel_rfl) (by simp) ?_
                    refine AllReadyIn.cons rfl (fun K hK => ?_) ?_
                    · go_simp
                      refine ⟨trivial, ?_⟩
                      refine (callsIn_wide.2 (on_any g l s c j ⟨q.bar, pass, mark, closed, jump, fn, cd⟩ x A2 c2 (some q2) V W' HS7.out HV7.out hq0 hq2 HPP.out.1 HPP.out.2 HON.out)).mono ?_
                      rintro e w7 ⟨rfl, hw7, hb7, hk7⟩
                      have HS8 := Aside0.mk hw7
                      have HV8 := Aside0.mk hb7
                      have HK8 := Aside0.mk hk7
                      clear hw7 hb7 hk7 t0 t1 t2 t3 t4 t5 t6 t7
                      refine hK _ _ ?_
                      clear hK K
                      refine wpAnyIn_take (i := 15) (v := ?_) rfl rfl (by kernel_rfl) (by kernel_rfl) (by kernel_rfl) (fun _ _ _ h => h) ⟨Or.inl ⟨by rfl, ?_⟩, fun _ => rfl⟩ ?_
                      rotate_left
                      · intro w
                        go_simp
                        first | done | with_reducible rfl
                      refine wpAnyIn_take (i := 16) (v := ?_) rfl rfl (by kernel_rfl) (by kernel_rfl) (by kernel_rfl) (fun _ _ _ h => h) ⟨Or.inl ⟨by rfl, ?_⟩, fun _ => rfl⟩ ?_
                      rotate_left
                      · intro w
                        go_simp
                        first | done | with_reducible rfl
                      refine wpAnyIn_done (by kernel_rfl) ?_ _
                      simp only [Act.put, List.setIfInBounds_toArray, List.set_cons_zero, List.set_cons_succ]
                      go_wp2
                      go_roundg k1
                      case measure => omega
                      case rel => exact ⟨q2, acc ++ [(q.bar, pass)], HWS, HS8, ⟨keep_blk HK8.out HBL7.out nBl⟩, HV8, ⟨J_step HJ.out rfl HJ7.out HS7.out HK8.out HV7.out HV8.out⟩⟩
                    exact AllReadyIn.nil
                  exact AllReadyIn.nil
                exact AllReadyIn.nil
              exact AllReadyIn.nil
            refine AllReadyIn.cons rfl (fun K hK => ?_) ?_
            · go_simp
              refine hK _ _ ?_
              clear hK K
              refine wpAnyIn_ready (rs := [4]) (by kernel_rfl) (by simp) ?_
              refine AllReadyIn.cons rfl (fun K hK => ?_) ?_
              · go_simp
                refine hK _ _ ?_
                clear hK K
                refine wpAnyIn_ready (rs := [9]) (by kernel_rfl) (by simp) ?_
                refine AllReadyIn.cons rfl (fun K hK => ?_) ?_
                · go_simp
                  refine HR.out.mono ?_
                  rintro e W' ⟨rfl, hj', hk'⟩
                  obtain ⟨A0x, c0x, HGx, hgx, hCx⟩ := HS5.out
                  have HS7 : Aside0 (IsWk V W' g l s c j ⟨q.bar, pass, mark, closed, jump, fn, cd⟩) := ⟨⟨A0x, c0x, (hk'.2.1 g _ 71 _ HGx (by decide) (by decide)).trans HGx, hgx, hCx⟩⟩
                  have HT7 := Aside0.mk ((hk'.2.1 B _ 38 _ HT5.out (by decide) (by decide)).trans HT5.out)
                  have HBL7 := Aside0.mk ((hk'.2.1 Bl _ 22 _ HBL5.out (by decide) (by decide)).trans HBL5.out)
                  have HV7 : Aside0 (Below V.heap.size V W') := ⟨(below_drew1 HV5.out).trans hk'.2.2⟩
                  have HJ7 := Aside0.mk hj'
                  clear hj' hk' HGx hgx hCx
                  have t0 : W'.cell? ⟨B, 0, none⟩ = some (.bool x.f0) := (blk_cell HT7.out 0).trans rfl
                  have t1 : W'.cell? ⟨B, 1, none⟩ = some (.int .i64 x.f1) := (blk_cell HT7.out 1).trans rfl
                  have t2 : W'.cell? ⟨B, 2, none⟩ = some (.slice A2 x.f2.length c2) := (blk_cell HT7.out 2).trans rfl
                  have t3 : W'.cell? ⟨B, 3, none⟩ = some (.bool x.f3) := (blk_cell HT7.out 3).trans rfl
                  have t4 : W'.cell? ⟨B, 4, none⟩ = some (.bool x.f4) := (blk_cell HT7.out 4).trans rfl
                  have t5 : W'.cell? ⟨B, 5, none⟩ = some (.bool x.f5) := (blk_cell HT7.out 5).trans rfl
                  have t6 : W'.cell? ⟨B, 6, none⟩ = some (.bool x.f6) := (blk_cell HT7.out 6).trans rfl
                  have t7 : W'.cell? ⟨B, 7, none⟩ = some (.int .i64 x.f7) := (blk_cell HT7.out 7).trans rfl
                  refine hK _ _ ?_
                  clear hK K
                  refine wpAnyIn_take (i := 10) (v := ?_) rfl rfl (by kernel_rfl) (by kernel_rfl) (by kernel_rfl) (fun _ _ _ h => h) ⟨Or.inl ⟨by rfl, ?_⟩, fun _ => rfl⟩ ?_
                  rotate_left
                  · intro w
                    go_simp
                    first | done | with_reducible rfl
                  refine wpAnyIn_take (i := 11) (v := ?_) rfl rfl (by kernel_rfl) (by kernel_rfl) (by kernel_rfl) (fun _ _ _ h => h) ⟨Or.inl ⟨by rfl, ?_⟩, fun _ => rfl⟩ ?_
                  rotate_left
                  · intro w
                    go_simp
                    first | done | with_reducible rfl
                  refine wpAnyIn_take (i := 12) (v := ?_) rfl rfl (by kernel_rfl) (by kernel_rfl) (by kernel_rfl) (fun _ _ _ h => h) ⟨Or.inl ⟨by rfl, ?_⟩, fun _ => rfl⟩ ?_
                  rotate_left
                  · intro w
                    go_simp
                    first | done | with_reducible rfl
                  refine wpAnyIn_ready (rs := [13]) (by kernel_rfl) (by simp) ?_
                  refine AllReadyIn.cons rfl (fun K hK => ?_) ?_
                  · go_simp
                    refine hK _ _ ?_
                    clear hK K
                    refine wpAnyIn_ready (rs := [14]) (by kernel_rfl) (by simp) ?_
                    refine AllReadyIn.cons rfl (fun K hK => ?_) ?_
                    · go_simp
                      refine ⟨trivial, ?_⟩
                      refine (callsIn_wide.2 (on_any g l s c j ⟨q.bar, pass, mark, closed, jump, fn, cd⟩ x A2 c2 (some q2) V W' HS7.out HV7.out hq0 hq2 HPP.out.1 HPP.out.2 HON.out)).mono ?_
                      rintro e w7 ⟨rfl, hw7, hb7, hk7⟩
                      have HS8 := Aside0.mk hw7
                      have HV8 := Aside0.mk hb7
                      have HK8 := Aside0.mk hk7
                      clear hw7 hb7 hk7 t0 t1 t2 t3 t4 t5 t6 t7
                      refine hK _ _ ?_
                      clear hK K
                      refine wpAnyIn_take (i := 15) (v := ?_) rfl rfl (by kernel_rfl) (by kernel_rfl) (by kernel_rfl) (fun _ _ _ h => h) ⟨Or.inl ⟨by rfl, ?_⟩, fun _ => rfl⟩ ?_
                      rotate_left
                      · intro w
                        go_simp
                        first | done | with_reducible rfl
                      refine wpAnyIn_take (i := 16) (v := ?_) rfl rfl (by kernel_rfl) (by kernel_rfl) (by kernel_rfl) (fun _ _ _ h => h) ⟨Or.inl ⟨by rfl, ?_⟩, fun _ => rfl⟩ ?_
                      rotate_left
                      · intro w
                        go_simp
                        first | done | with_reducible rfl
                      refine wpAnyIn_done (by kernel_rfl) ?_ _
                      simp only [Act.put, List.setIfInBounds_toArray, List.set_cons_zero, List.set_cons_succ]
                      go_wp2
                      go_roundg k1
                      case measure => omega
                      case rel => exact ⟨q2, acc ++ [(q.bar, pass)], HWS, HS8, ⟨keep_blk HK8.out HBL7.out nBl⟩, HV8, ⟨J_step HJ.out rfl HJ7.out HS7.out HK8.out HV7.out HV8.out⟩⟩
                    exact AllReadyIn.nil
                  exact AllReadyIn.nil
                exact AllReadyIn.nil
              exact AllReadyIn.nil
            exact AllReadyIn.nil
end Go.Proofs.Ytendmmagjjhfnaa.M
