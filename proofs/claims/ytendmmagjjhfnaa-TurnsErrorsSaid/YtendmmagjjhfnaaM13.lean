/- Printed by a program of this session (wip/tools), out of the translation: functions with the same answers as the Go code, and the contracts of the code. Lean checks it. -/
import Derived.Test.YtendmmagjjhfnaaM0
import Derived.Test.YtendmmagjjhfnaaM3
import Derived.Test.YtendmmagjjhfnaaM4
import Derived.Test.YtendmmagjjhfnaaM5
import Derived.Test.YtendmmagjjhfnaaM6
import Derived.Test.YtendmmagjjhfnaaM7
import Derived.Test.YtendmmagjjhfnaaM8
import Derived.Test.YtendmmagjjhfnaaM9
import Derived.Test.YtendmmagjjhfnaaM10
import Derived.Test.YtendmmagjjhfnaaM11
import Derived.Test.YtendmmagjjhfnaaM12
namespace Go.Proofs.Ytendmmagjjhfnaa.M
open Go.RowKit Go.Proofs.YtendmmagjjhfnaaW.PrintWords Go.Proofs.YtendmmagjjhfnaaW.PrintLast Go.Proofs.YtendmmagjjhfnaaW.PrintMore
attribute [local go_sem] max2_int min2_int max_two min_two max_three min_three max_four min_four   -- for this text's walks alone
set_option linter.unusedVariables false
set_option linter.unusedSimpArgs false

/-! ### turns_Check: function 13 -/
/-- Has a bar a second one of what may be but once? (s, c, j: the first ones) -/
def againB (s c j : Int) (i : Int) (x : S38) : Bool := (x.f3 && decide (i > s)) || (x.f4 && decide (i > c)) || (decide (x.f7 ≠ 0) && decide (i > j))
def loneO (k : Nat) (x : S38) : Option Bool := turns_lone.f k x.f0 x.f1 x.f2 x.f3 x.f4 x.f5 x.f6 x.f7
def chkGo (k : Nat) (s c j : Int) : Int → List S38 → Option (Option Int)
  | _, [] => some none
  | i, x :: xs => (loneO k x).bind fun b => if b = true then (if againB s c j i x = true then some (some i) else chkGo k s c j (i + 1) xs) else some (some i)
def lacksB (l : List S38) (s c : Int) (g : Int) : Bool :=
  (decide (g ≥ 4) && decide (s < 0)) || ((decide (g = 2) || decide (g = 5)) && decide (fi (fun x => x.f6) 0 l < 0)) || ((decide (g = 3) || decide (g = 6)) && (decide (c < 0) || decide (fi (fun x => x.f5) 0 l < 0)))
theorem found_f {l : List S38} (h : l.length ≤ 140737488351232) : turns_found.f l = some (fi (fun x => x.f3) 0 l, fi (fun x => x.f4) 0 l, fi isJump 0 l) := by
  unfold turns_found.f turns_found_1.f turns_found_2.f turns_found_3.f
  rw [if_pos h, if_pos h, if_pos h]
  rfl

theorem below_drawn0 {w w' : World} (h : Drawn0 w w') : Below w.heap.size w w' := by
  obtain ⟨n, rfl⟩ := h
  exact pw_below_drewN (Below.refl _ _) n
theorem segno_any (g : Int) (b : Bool) (w : World) (h : decide (g ≥ 4) = b) : Calls Try.prog 25 #[.int .i64 g] w fun e w' => e = .returned (.bool b) ∧ Below w.heap.size w w' :=
  (turns_segno.calls g b w (by unfold turns_segno.f; rw [h])).mono fun e w' ⟨h1, h2⟩ => ⟨h1, below_drawn0 h2⟩
theorem fine_any (g : Int) (b : Bool) (w : World) (h : (decide (g = 2) || decide (g = 5)) = b) : Calls Try.prog 26 #[.int .i64 g] w fun e w' => e = .returned (.bool b) ∧ Below w.heap.size w w' :=
  (turns_fine.calls g b w (by
    unfold turns_fine.f
    rw [← h]
    by_cases h2 : g = 2
    · simp [h2]
    · simp [h2]; rfl)).mono fun e w' ⟨h1, h2⟩ => ⟨h1, below_drawn0 h2⟩
theorem coda_any (g : Int) (b : Bool) (w : World) (h : (decide (g = 3) || decide (g = 6)) = b) : Calls Try.prog 29 #[.int .i64 g] w fun e w' => e = .returned (.bool b) ∧ Below w.heap.size w w' :=
  (turns_coda.calls g b w (by
    unfold turns_coda.f
    rw [← h]
    by_cases h2 : g = 3
    · simp [h2]
    · simp [h2]; rfl)).mono fun e w' ⟨h1, h2⟩ => ⟨h1, below_drawn0 h2⟩
theorem first28_any (A0 : Option Addr) (c0 : Nat) (l0 : List (S38)) (r : Int) (w : World) (hr0 : Kd.C k38 w A0 l0.length l0) (hc0 : l0.length ≤ c0) (hm : l0.length ≤ 140737488351232) (h : fi (fun x => x.f6) 0 l0 = r) :
    Calls Try.prog 27 #[.slice A0 l0.length c0, .func (.func 28) #[] #[]] w fun e w' => e = .returned (.int .i64 r) ∧ Below w.heap.size w w' :=
  turns_Check_1.calls A0 c0 l0 r w hr0 hc0 (by unfold turns_Check_1.f; rw [if_pos hm, h])
theorem first30_any (A0 : Option Addr) (c0 : Nat) (l0 : List (S38)) (r : Int) (w : World) (hr0 : Kd.C k38 w A0 l0.length l0) (hc0 : l0.length ≤ c0) (hm : l0.length ≤ 140737488351232) (h : fi (fun x => x.f5) 0 l0 = r) :
    Calls Try.prog 27 #[.slice A0 l0.length c0, .func (.func 30) #[] #[]] w fun e w' => e = .returned (.int .i64 r) ∧ Below w.heap.size w w' :=
  turns_Check_2.calls A0 c0 l0 r w hr0 hc0 (by unfold turns_Check_2.f; rw [if_pos hm, h])
/-- The answer, from what the bars' own turns say. -/
def chkEnd (l : List S38) : Option Int → Option (Int × Int)
  | some i => some (i, 100)
  | none => if fi isJump 0 l < 0 then some (0, 0) else if lacksB l (fi (fun x => x.f3) 0 l) (fi (fun x => x.f4) 0 l) (rd_T38 l (fi isJump 0 l)).f7 = true then some (fi isJump 0 l, 100) else some (0, 0)
def turns_Check.f (k : Nat) (l0 : List (S38)) : Option (Int × Int) :=
  if l0.length ≤ 140737488351232 then (chkGo k (fi (fun x => x.f3) 0 l0) (fi (fun x => x.f4) 0 l0) (fi isJump 0 l0) 0 l0).bind (chkEnd l0) else none
theorem fi_range (p : S38 → Bool) : ∀ (l : List S38) (i : Int), 0 ≤ i → fi p i l = -1 ∨ (i ≤ fi p i l ∧ fi p i l < i + l.length)
  | [], i, _ => .inl rfl
  | x :: xs, i, h => by
    rw [fi]
    by_cases hp : p x = true
    · rw [if_pos hp]; right; simp; omega
    · rw [if_neg hp]
      rcases fi_range p xs (i + 1) (by omega) with h | h
      · exact .inl h
      · right; simp; omega

set_option maxHeartbeats 8000000 in
set_option maxRecDepth 100000 in
theorem turns_Check.calls (k : Nat) (A0 : Option Addr) (c0 : Nat) (l0 : List (S38)) (r1 : Int) (r2 : Int) (w : World) (hr0 : Kd.C k38 w A0 l0.length l0) (hc0 : l0.length ≤ c0) (h : turns_Check.f k l0 = some (r1, r2)) :
    Calls Try.prog 13 #[.slice A0 l0.length c0] w fun e w' => e = .returned (.tuple #[.int .i64 r1, .int .i64 r2]) ∧ Below w.heap.size w w' := by
  unfold turns_Check.f at h
  by_cases hm : l0.length ≤ 140737488351232
  case neg => rw [if_neg hm] at h; cases h
  rw [if_pos hm] at h
  obtain ⟨o, ho, h⟩ := Option.bind_eq_some_iff.mp h
  have HO0 := Aside0.mk ho
  have HEND := Aside0.mk h
  clear ho h
  have hu38 := Try.underlying38
  have hu49 := Try.underlying49
  have HR0 := Aside0.mk hr0
  have HC0 := Aside0.mk hc0
  clear hr0 hc0
  obtain ⟨s, hs⟩ : ∃ s, s = fi (fun x => x.f3) 0 l0 := ⟨_, rfl⟩
  obtain ⟨c, hc⟩ : ∃ s, s = fi (fun x => x.f4) 0 l0 := ⟨_, rfl⟩
  obtain ⟨j, hj⟩ : ∃ s, s = fi isJump 0 l0 := ⟨_, rfl⟩
  have HF : Aside0 (turns_found.f l0 = some (s, c, j)) := ⟨by rw [found_f hm, hs, hc, hj]⟩
  have HS := Aside0.mk hs
  have HCo := Aside0.mk hc
  have HJ := Aside0.mk hj
  have HO : Aside0 (chkGo k s c j 0 l0 = some o) := ⟨by rw [hs, hc, hj]; exact HO0.out⟩
  clear hs hc hj HO0
  go_enter Try.func13, Try.ntmps13
  go_wp2_with ((with_reducible refine (turns_found.calls A0 c0 l0 s c j _ HR0.out HC0.out HF.out).mono ?_); rintro e w1 ⟨rfl, hb1⟩; have HB1 := Aside0.mk hb1; clear hb1)
  have HBB : Aside0 ((w1.alloc (.cells #[.int .i64 s, .int .i64 c, .int .i64 j] 49)).heap[w1.heap.size]? = some (.cells #[.int .i64 s, .int .i64 c, .int .i64 j] 49 (0, 0))) := ⟨heap_alloc_new w1 _⟩
  have HB2 : Aside0 (Below w.heap.size w (w1.alloc (.cells #[.int .i64 s, .int .i64 c, .int .i64 j] 49))) := ⟨below_alloc HB1.out _⟩
  obtain ⟨w2, hw2⟩ : ∃ w2, w1.alloc (.cells #[.int .i64 s, .int .i64 c, .int .i64 j] 49) = w2 := ⟨_, rfl⟩
  rw [hw2] at HBB HB2 ⊢
  clear hw2
  obtain ⟨B, hB⟩ : ∃ B, w1.heap.size = B := ⟨_, rfl⟩
  rw [hB] at HBB ⊢
  clear hB
  go_loopw [14] (fun i wr => ∃ q : Nat, q ≤ l0.length ∧ i = .int .i64 (q : Int) ∧ Aside0 (chkGo k s c j (q : Int) (l0.drop q) = some o) ∧ Aside0 (Below w2.heap.size w2 wr)) (fun i _ => l0.length - (intOf i).toNat)
  case atStart => exact ⟨0, Nat.zero_le _, rfl, ⟨by rw [List.drop_zero]; exact HO.out⟩, ⟨Below.refl _ _⟩⟩
  case round =>
    clear HO
    obtain ⟨q, hq, rfl, HO, HB⟩ := hrel
    have cB := blk_cell ((HB.out.block _ (lt_of_block HBB.out)).trans HBB.out)
    by_cases hlt : q < l0.length
    · obtain ⟨ad, A2, c2, rfl, h0, h1, h2, h3, h4, h5, h6, h7, _, _⟩ := at_T38 HR0.out (q : Int) (by omega) (by omega)
      replace h0 := (HB.out.cell (Nat.lt_of_lt_of_le (World.block_lt_of_cell? w _ h0) HB2.out.size)).trans ((HB2.out.cell (World.block_lt_of_cell? w _ h0)).trans h0)
      replace h1 := (HB.out.cell (Nat.lt_of_lt_of_le (World.block_lt_of_cell? w _ h1) HB2.out.size)).trans ((HB2.out.cell (World.block_lt_of_cell? w _ h1)).trans h1)
      replace h2 := (HB.out.cell (Nat.lt_of_lt_of_le (World.block_lt_of_cell? w _ h2) HB2.out.size)).trans ((HB2.out.cell (World.block_lt_of_cell? w _ h2)).trans h2)
      replace h3 := (HB.out.cell (Nat.lt_of_lt_of_le (World.block_lt_of_cell? w _ h3) HB2.out.size)).trans ((HB2.out.cell (World.block_lt_of_cell? w _ h3)).trans h3)
      replace h4 := (HB.out.cell (Nat.lt_of_lt_of_le (World.block_lt_of_cell? w _ h4) HB2.out.size)).trans ((HB2.out.cell (World.block_lt_of_cell? w _ h4)).trans h4)
      replace h5 := (HB.out.cell (Nat.lt_of_lt_of_le (World.block_lt_of_cell? w _ h5) HB2.out.size)).trans ((HB2.out.cell (World.block_lt_of_cell? w _ h5)).trans h5)
      replace h6 := (HB.out.cell (Nat.lt_of_lt_of_le (World.block_lt_of_cell? w _ h6) HB2.out.size)).trans ((HB2.out.cell (World.block_lt_of_cell? w _ h6)).trans h6)
      replace h7 := (HB.out.cell (Nat.lt_of_lt_of_le (World.block_lt_of_cell? w _ h7) HB2.out.size)).trans ((HB2.out.cell (World.block_lt_of_cell? w _ h7)).trans h7)
      rw [Int.toNat_natCast] at h0 h1 h2 h3 h4 h5 h6 h7
      clear cB
      rename_i ge2 gc2
      have HE : Aside0 ((rd_T38 l0 (q : Int)).f2.length ≤ c2 ∧ (Kd.int .i64).C w A2 (rd_T38 l0 (q : Int)).f2.length (rd_T38 l0 (q : Int)).f2) := ⟨ge2, gc2⟩
      clear ge2 gc2
      obtain ⟨x, hx⟩ : ∃ x, rd_T38 l0 (q : Int) = x := ⟨_, rfl⟩
      rw [hx] at h0 h1 h2 h3 h4 h5 h6 h7 HE
      have HO2 : Aside0 ((loneO k x).bind (fun b => if b = true then (if againB s c j (q : Int) x = true then some (some (q : Int)) else chkGo k s c j ((q + 1 : Nat) : Int) (l0.drop (q + 1))) else some (some (q : Int))) = some o) := ⟨by
        have h := HO.out
        rw [List.drop_eq_getElem_cons hlt, chkGo, ← rd_T38_nat l0 q hlt, hx] at h
        exact h⟩
      clear HO hx
      go_upto_region 5 with (fail)
      clear h0 h1 h2 h3 h4 h5 h6 h7
      have HT : Aside0 ((wr.alloc (.cells #[.bool x.f0, .int .i64 x.f1, .slice A2 x.f2.length c2, .bool x.f3, .bool x.f4, .bool x.f5, .bool x.f6, .int .i64 x.f7] 38)).heap[wr.heap.size]? = some (.cells #[.bool x.f0, .int .i64 x.f1, .slice A2 x.f2.length c2, .bool x.f3, .bool x.f4, .bool x.f5, .bool x.f6, .int .i64 x.f7] 38 (0, 0))) := ⟨heap_alloc_new wr _⟩
      have HB3 : Aside0 (Below w2.heap.size w2 (wr.alloc (.cells #[.bool x.f0, .int .i64 x.f1, .slice A2 x.f2.length c2, .bool x.f3, .bool x.f4, .bool x.f5, .bool x.f6, .int .i64 x.f7] 38))) := ⟨below_alloc HB.out _⟩
      obtain ⟨w3, hw3⟩ : ∃ w3, wr.alloc (.cells #[.bool x.f0, .int .i64 x.f1, .slice A2 x.f2.length c2, .bool x.f3, .bool x.f4, .bool x.f5, .bool x.f6, .int .i64 x.f7] 38) = w3 := ⟨_, rfl⟩
      rw [hw3] at HT HB3 ⊢
      clear hw3
      obtain ⟨G, hG⟩ : ∃ G, wr.heap.size = G := ⟨_, rfl⟩
      rw [hG] at HT ⊢
      clear hG HB
      have cB := blk_cell ((HB3.out.block _ (lt_of_block HBB.out)).trans HBB.out)
      have cT := blk_cell HT.out
      have cs : w3.cell? ⟨B, 0, none⟩ = some (.int .i64 s) := (cB 0).trans rfl
      have cc : w3.cell? ⟨B, 1, none⟩ = some (.int .i64 c) := (cB 1).trans rfl
      have cj : w3.cell? ⟨B, 2, none⟩ = some (.int .i64 j) := (cB 2).trans rfl
      have t0 : w3.cell? ⟨G, 0, none⟩ = some (.bool x.f0) := (cT 0).trans rfl
      have t1 : w3.cell? ⟨G, 1, none⟩ = some (.int .i64 x.f1) := (cT 1).trans rfl
      have t2 : w3.cell? ⟨G, 2, none⟩ = some (.slice A2 x.f2.length c2) := (cT 2).trans rfl
      have t3 : w3.cell? ⟨G, 3, none⟩ = some (.bool x.f3) := (cT 3).trans rfl
      have t4 : w3.cell? ⟨G, 4, none⟩ = some (.bool x.f4) := (cT 4).trans rfl
      have t5 : w3.cell? ⟨G, 5, none⟩ = some (.bool x.f5) := (cT 5).trans rfl
      have t6 : w3.cell? ⟨G, 6, none⟩ = some (.bool x.f6) := (cT 6).trans rfl
      have t7 : w3.cell? ⟨G, 7, none⟩ = some (.int .i64 x.f7) := (cT 7).trans rfl
      clear cB cT
      obtain ⟨ag, hag⟩ : ∃ ag, againB s c j (q : Int) x = ag := ⟨_, rfl⟩
      have HAG := Aside0.mk hag
      clear hag
      go_cut [7] (fun v7 wc => v7 = .bool ag ∧ wc = w3)
      case first =>
        cases b3 : x.f3 <;> cases b4 : x.f4 <;> by_cases b7 : x.f7 = 0 <;> by_cases ds : s < (q : Int) <;> by_cases dc : c < (q : Int) <;> by_cases dj : j < (q : Int)
        all_goals
          have hag := HAG.out
          unfold againB at hag
          simp only [b3, b4, b7, gt_iff_lt, ds, dc, dj, ne_eq, not_true_eq_false, not_false_eq_true, decide_true, decide_false, Bool.and_true, Bool.and_false, Bool.true_and, Bool.false_and, Bool.or_true, Bool.or_false, Bool.true_or, Bool.false_or] at hag
          subst hag
          clear HAG
          rw [b3] at t3
          rw [b4] at t4
          clear b3 b4
          first | rw [b7] at t7 | skip
          first | have hb7 : (x.f7 != 0) = true := bne_iff_ne.mpr b7 | skip
          first | have eds : decide (s < (q : Int)) = true := decide_eq_true ds | have eds : decide (s < (q : Int)) = false := decide_eq_false ds
          first | have edc : decide (c < (q : Int)) = true := decide_eq_true dc | have edc : decide (c < (q : Int)) = false := decide_eq_false dc
          first | have edj : decide (j < (q : Int)) = true := decide_eq_true dj | have edj : decide (j < (q : Int)) = false := decide_eq_false dj
          clear ds dc dj b7
          go_wp2
          go_meet
          case rel => exact ⟨rfl, rfl⟩
      case rest =>
        obtain ⟨rfl, rfl⟩ := hcut
        have ho2 := HO2.out
        clear HO2
        rw [HAG.out] at ho2
        clear HAG
        obtain ⟨b, hb, ho2⟩ := Option.bind_eq_some_iff.mp ho2
        have HLO : Aside0 (turns_lone.f k x.f0 x.f1 x.f2 x.f3 x.f4 x.f5 x.f6 x.f7 = some b) := ⟨hb⟩
        have HO2 := Aside0.mk ho2
        clear hb ho2
        have HEC : Aside0 ((Kd.int .i64).C wc A2 x.f2.length x.f2) := ⟨Kd.C_below (Kd.C_below HE.out.2 HB2.out) HB3.out⟩
        cases b with
        | false =>
          obtain rfl := Option.some.inj ((if_neg (by decide)).symm.trans HO2.out)
          clear HO2
          go_wp2_with ((with_reducible refine (turns_lone.calls k x.f0 x.f1 A2 c2 x.f2 x.f3 x.f4 x.f5 x.f6 x.f7 false _ HEC.out HE.out.1 HLO.out).mono ?_); rintro e w4 ⟨rfl, hb4⟩; have HB4 := Aside0.mk hb4; clear hb4)
          have hend := HEND.out
          simp only [chkEnd, Option.some.injEq, Prod.mk.injEq] at hend
          obtain ⟨rfl, rfl⟩ := hend
          go_ret2
          exact ⟨rfl, below_step (below_step HB2.out HB3.out) HB4.out⟩
        | true =>
          cases ag with
          | true =>
            obtain rfl := Option.some.inj (((if_pos rfl).trans (if_pos rfl)).symm.trans HO2.out)
            clear HO2
            go_wp2_with ((with_reducible refine (turns_lone.calls k x.f0 x.f1 A2 c2 x.f2 x.f3 x.f4 x.f5 x.f6 x.f7 true _ HEC.out HE.out.1 HLO.out).mono ?_); rintro e w4 ⟨rfl, hb4⟩; have HB4 := Aside0.mk hb4; clear hb4)
            have hend := HEND.out
            simp only [chkEnd, Option.some.injEq, Prod.mk.injEq] at hend
            obtain ⟨rfl, rfl⟩ := hend
            go_ret2
            exact ⟨rfl, below_step (below_step HB2.out HB3.out) HB4.out⟩
          | false =>
            have ho3 := ((if_pos rfl).trans (if_neg (by decide))).symm.trans HO2.out
            have HO3 := Aside0.mk ho3
            clear ho3 HO2
            go_wp2_with ((with_reducible refine (turns_lone.calls k x.f0 x.f1 A2 c2 x.f2 x.f3 x.f4 x.f5 x.f6 x.f7 true _ HEC.out HE.out.1 HLO.out).mono ?_); rintro e w4 ⟨rfl, hb4⟩; have HB4 := Aside0.mk hb4; clear hb4)
            go_roundw
            case rel => exact ⟨q + 1, by omega, by go_num, HO3, ⟨below_step HB3.out HB4.out⟩⟩
            case measure => simp [intOf]; omega
    · have hn : q = l0.length := by omega
      subst hn
      have hO := HO.out
      rw [List.drop_length, chkGo] at hO
      obtain rfl := Option.some.inj hO
      clear hO HO
      have cs : wr.cell? ⟨B, 0, none⟩ = some (.int .i64 s) := (cB 0).trans rfl
      have cc : wr.cell? ⟨B, 1, none⟩ = some (.int .i64 c) := (cB 1).trans rfl
      have cj : wr.cell? ⟨B, 2, none⟩ = some (.int .i64 j) := (cB 2).trans rfl
      clear cB
      have hend := HEND.out
      clear HEND
      unfold chkEnd at hend
      simp only [← HS.out, ← HCo.out, ← HJ.out] at hend
      by_cases hj0 : j < 0
      · rw [if_pos hj0] at hend
        have hjb : decide (j < 0) = true := decide_eq_true hj0
        clear hj0
        simp only [Option.some.injEq, Prod.mk.injEq] at hend
        obtain ⟨rfl, rfl⟩ := hend
        go_wp2
        go_ret2
        exact ⟨rfl, below_step HB2.out HB.out⟩
      · rw [if_neg hj0] at hend
        have hjb : decide (j < 0) = false := decide_eq_false hj0
        have hj1 : 0 ≤ j := by omega
        have hj2 : j < (l0.length : Int) := by
          have := fi_range isJump l0 0 (by omega)
          rw [← HJ.out] at this
          omega
        clear hj0
        obtain ⟨ad, A2, c2, rfl, h0, h1, h2, h3, h4, h5, h6, h7, _, _⟩ := at_T38 HR0.out j hj1 hj2
        replace h7 := (HB.out.cell (Nat.lt_of_lt_of_le (World.block_lt_of_cell? w _ h7) HB2.out.size)).trans ((HB2.out.cell (World.block_lt_of_cell? w _ h7)).trans h7)
        clear h0 h1 h2 h3 h4 h5 h6
        obtain ⟨g, hg⟩ : ∃ g, (rd_T38 l0 j).f7 = g := ⟨_, rfl⟩
        rw [hg] at h7 hend
        clear hg
        have HEND := Aside0.mk hend
        clear hend
        go_upto_region 12 with (fail)
        obtain ⟨ff, hff⟩ : ∃ ff, fi (fun x => x.f6) 0 l0 = ff := ⟨_, rfl⟩
        obtain ⟨ft, hft⟩ : ∃ ft, fi (fun x => x.f5) 0 l0 = ft := ⟨_, rfl⟩
        have HFF := Aside0.mk hff
        have HFT := Aside0.mk hft
        have HM := Aside0.mk hm
        clear hff hft hm hj1 hj2 hjb
        obtain ⟨sg, hsg⟩ : ∃ sg, decide (g ≥ 4) = sg := ⟨_, rfl⟩
        have HSG := Aside0.mk hsg
        obtain ⟨fn, hfn⟩ : ∃ fn, (decide (g = 2) || decide (g = 5)) = fn := ⟨_, rfl⟩
        have HFN := Aside0.mk hfn
        obtain ⟨cd, hcd⟩ : ∃ cd, (decide (g = 3) || decide (g = 6)) = cd := ⟨_, rfl⟩
        have HCD := Aside0.mk hcd
        obtain ⟨ds, hds⟩ : ∃ ds, decide (s < 0) = ds := ⟨_, rfl⟩
        have HDS := Aside0.mk hds
        obtain ⟨dc, hdc⟩ : ∃ dc, decide (c < 0) = dc := ⟨_, rfl⟩
        have HDC := Aside0.mk hdc
        obtain ⟨df, hdf⟩ : ∃ df, decide (ff < 0) = df := ⟨_, rfl⟩
        have HDF := Aside0.mk hdf
        obtain ⟨dt, hdt⟩ : ∃ dt, decide (ft < 0) = dt := ⟨_, rfl⟩
        have HDT := Aside0.mk hdt
        have HEND2 : Aside0 ((if ((sg && ds) || (fn && df) || (cd && (dc || dt))) = true then some (j, 100) else some (0, 0)) = some (r1, r2)) := ⟨by
          have h := HEND.out
          unfold lacksB at h
          rw [hsg, hfn, hcd, hds, hdc, HFF.out, HFT.out, hdf, hdt] at h
          exact h⟩
        clear HEND hsg hfn hcd hds hdc hdf hdt h7
        go_cut [9] (fun v9 wc => v9 = .bool (sg && ds) ∧ Aside0 (Below w2.heap.size w2 wc))
        case first =>
          clear HEND2 HFN HCD HDC HDF HDT
          have hds := HDS.out
          cases sg <;> cases ds
          all_goals
            go_wp2_with ((with_reducible refine (segno_any g _ _ HSG.out).mono ?_); rintro e w4 ⟨rfl, hb4⟩; have HB4 := Aside0.mk (below_step HB.out hb4); have cs4 : w4.cell? ⟨B, 0, none⟩ = some (.int .i64 s) := (hb4.cell (World.block_lt_of_cell? _ _ cs)).trans cs; clear hb4)
            go_meet
            case rel => exact ⟨rfl, HB4⟩
        case rest =>
          clear HB cs cc cj
          obtain ⟨rfl, HB⟩ := hcut
          obtain ⟨b1, hb1⟩ : ∃ b1, (sg && ds) = b1 := ⟨_, rfl⟩
          rw [hb1] at HEND2 ⊢
          clear hb1 HSG HDS
          go_upto_region 13 with (fail)
          go_cut [9] (fun v9 wd => v9 = .bool (b1 || (fn && df)) ∧ Aside0 (Below w2.heap.size w2 wd))
          case first =>
            clear HEND2 HCD HDC HDT
            have hdf := HDF.out
            have HRC : Aside0 (Kd.C k38 wc (some ad) l0.length l0) := ⟨Kd.C_below (Kd.C_below HR0.out HB2.out) HB.out⟩
            cases b1 <;> cases fn <;> cases df
            all_goals
              go_wp2_with (first | ((with_reducible refine (fine_any g _ _ HFN.out).mono ?_); rintro e w4 ⟨rfl, hb4⟩; have HB4 := Aside0.mk (below_step HB.out hb4); have HRC4 := Aside0.mk (Kd.C_below HRC.out hb4); clear hb4 HB HRC; have HB := HB4; have HRC := HRC4; clear HB4 HRC4) | ((with_reducible refine (first28_any (some ad) c0 l0 ff _ HRC.out HC0.out HM.out HFF.out).mono ?_); rintro e w4 ⟨rfl, hb4⟩; have HB4 := Aside0.mk (below_step HB.out hb4); clear hb4 HB; have HB := HB4; clear HB4))
              go_meet
              case rel => exact ⟨rfl, HB⟩
          case rest =>
            clear HB
            obtain ⟨rfl, HB⟩ := hcut
            obtain ⟨b2, hb2⟩ : ∃ b2, (b1 || (fn && df)) = b2 := ⟨_, rfl⟩
            rw [hb2] at HEND2 ⊢
            clear hb2 HFN HDF HFF
            have cB := blk_cell ((HB.out.block _ (lt_of_block HBB.out)).trans HBB.out)
            have cc : World.cell? _ ⟨B, 1, none⟩ = some (.int .i64 c) := (cB 1).trans rfl
            clear cB
            go_upto_region 14 with (fail)
            go_cut [9] (fun v9 we => v9 = .bool (b2 || (cd && (dc || dt))) ∧ Aside0 (Below w2.heap.size w2 we))
            case first =>
              clear HEND2
              have hdc := HDC.out
              have hdt := HDT.out
              have HRC : Aside0 (Kd.C k38 _ (some ad) l0.length l0) := ⟨Kd.C_below (Kd.C_below HR0.out HB2.out) HB.out⟩
              cases b2 <;> cases cd <;> cases dc <;> cases dt
              all_goals
                go_wp2_with (first | ((with_reducible refine (coda_any g _ _ HCD.out).mono ?_); rintro e w4 ⟨rfl, hb4⟩; have HB4 := Aside0.mk (below_step HB.out hb4); have HRC4 := Aside0.mk (Kd.C_below HRC.out hb4); have cc4 : w4.cell? ⟨B, 1, none⟩ = some (.int .i64 c) := (hb4.cell (World.block_lt_of_cell? _ _ cc)).trans cc; clear hb4 HB HRC cc; have HB := HB4; have HRC := HRC4; clear HB4 HRC4) | ((with_reducible refine (first30_any (some ad) c0 l0 ft _ HRC.out HC0.out HM.out HFT.out).mono ?_); rintro e w4 ⟨rfl, hb4⟩; have HB4 := Aside0.mk (below_step HB.out hb4); clear hb4 HB; have HB := HB4; clear HB4))
                go_meet
                case rel => exact ⟨rfl, HB⟩
            case rest =>
              clear HB cc
              obtain ⟨rfl, HB⟩ := hcut
              obtain ⟨b3, hb3⟩ : ∃ b3, (b2 || (cd && (dc || dt))) = b3 := ⟨_, rfl⟩
              rw [hb3] at HEND2 ⊢
              clear hb3 HCD HDC HDT HFT
              have cB := blk_cell ((HB.out.block _ (lt_of_block HBB.out)).trans HBB.out)
              have cj : World.cell? _ ⟨B, 2, none⟩ = some (.int .i64 j) := (cB 2).trans rfl
              clear cB
              cases b3 with
              | true =>
                have hend := (if_pos rfl).symm.trans HEND2.out
                simp only [Option.some.injEq, Prod.mk.injEq] at hend
                obtain ⟨rfl, rfl⟩ := hend
                clear HEND2
                go_wp2
                go_ret2
                exact ⟨rfl, below_step HB2.out HB.out⟩
              | false =>
                have hend := (if_neg (by decide)).symm.trans HEND2.out
                simp only [Option.some.injEq, Prod.mk.injEq] at hend
                obtain ⟨rfl, rfl⟩ := hend
                clear HEND2
                go_wp2
                go_ret2
                exact ⟨rfl, below_step HB2.out HB.out⟩

theorem chkGo_mono (k : Nat) (s c j : Int) : ∀ (i : Int) (l : List S38), LeO (chkGo k s c j i l) (chkGo (k + 1) s c j i l)
  | _, [] => LeO.refl _
  | i, x :: xs => by
    rw [chkGo, chkGo]
    exact LeO.bind (turns_lone.mono _ _ _ _ _ _ _ _ _) fun b => LeO.ite (LeO.ite (LeO.refl _) (chkGo_mono k s c j _ _)) (LeO.refl _)
theorem turns_Check.mono : ∀ a0 k, LeO (turns_Check.f k a0) (turns_Check.f (k + 1) a0) := by
  intro a0 k
  unfold turns_Check.f
  exact LeO.ite (LeO.bind (chkGo_mono _ _ _ _ _ _) fun _ => LeO.refl _) (LeO.refl _)

end Go.Proofs.Ytendmmagjjhfnaa.M
