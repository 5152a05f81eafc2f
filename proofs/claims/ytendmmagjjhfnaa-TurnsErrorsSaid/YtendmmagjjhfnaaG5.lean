/- What the walker does behind a bar that is played: where it goes on. -/
import Derived.Test.YtendmmagjjhfnaaG4
import Derived.Test.YtendmmagjjhfnaaM13
namespace Go.Proofs.Ytendmmagjjhfnaa.M
open Go.RowKit Go.Proofs.YtendmmagjjhfnaaW.PrintWords Go.Proofs.YtendmmagjjhfnaaW.PrintLast Go.Proofs.YtendmmagjjhfnaaW.PrintMore
set_option linter.unusedVariables false
set_option linter.unusedSimpArgs false

/-- Where a walker is. -/
structure Wk where
  bar : Int
  pass : Int
  mark : Int
  closed : Bool
  jump : Int
  fn : Bool
  cd : Bool
/-- What leads to a bar. -/
def Wk.to (k : Wk) (b : Int) : Wk := { k with bar := b, mark := b, pass := 1, closed := false }
def isFine (g : Int) : Bool := decide (g = 2) || decide (g = 5)
def isCoda (g : Int) : Bool := decide (g = 3) || decide (g = 6)
/-- Where it goes on behind a bar that is played; none: that was the end. (s, c: the Sign, the Coda) -/
def onW (s c : Int) (k : Wk) (x : S38) : Option Wk :=
  if (k.fn && x.f6) = true then none
  else if (k.cd && x.f5) = true then some ({ k with cd := false }.to c)
  else if k.jump = 0 ∧ k.pass < x.f1 then some { k with bar := k.mark, pass := k.pass + 1, closed := false }
  else if k.jump ≠ 0 ∨ x.f7 = 0 then some { k with closed := k.closed || decide (x.f1 > 0), bar := k.bar + 1 }
  else some ({ k with jump := x.f7, fn := isFine x.f7, cd := isCoda x.f7 }.to (if x.f7 ≥ 4 then s else 0))
/-- A walker in memory. -/
abbrev IsWk (w0 W : World) (g : Nat) (l : List S38) (s c j : Int) (k : Wk) : Prop := IsS71 w0 W g l s c j k.bar k.pass k.mark k.closed k.jump k.fn k.cd

theorem fine_d (g : Int) (b : Bool) (w : World) (h : isFine g = b) : Calls Try.prog 26 #[.int .i64 g] w fun e w' => e = .returned (.bool b) ∧ Drawn0 w w' :=
  turns_fine.calls g b w (by
    unfold turns_fine.f
    rw [← h]
    unfold isFine
    by_cases h2 : g = 2
    · simp [h2]
    · simp [h2]; rfl)
theorem coda_d (g : Int) (b : Bool) (w : World) (h : isCoda g = b) : Calls Try.prog 29 #[.int .i64 g] w fun e w' => e = .returned (.bool b) ∧ Drawn0 w w' :=
  turns_coda.calls g b w (by
    unfold turns_coda.f
    rw [← h]
    unfold isCoda
    by_cases h2 : g = 3
    · simp [h2]
    · simp [h2]; rfl)
theorem to_any (g : Nat) (l : List (S38)) (s c j : Int) (k : Wk) (b : Int) (w0 w : World) (hI : IsWk w0 w g l s c j k) (hB : Below w0.heap.size w0 w) :
    Calls Try.prog 47 #[.pointer (some ⟨g, 0, none⟩), .int .i64 b] w fun e w' => e = .returned (.tuple #[]) ∧ IsWk w0 w' g l s c j (k.to b) ∧ Below w0.heap.size w0 w' ∧ KeepBut w w' g none :=
  turns_walker_to.calls g l s c j k.bar k.pass k.mark k.closed k.jump k.fn k.cd b s c j b 1 b false k.jump k.fn k.cd w0 w hI hB rfl

theorem seg_any (g : Int) (b : Bool) (w : World) (h : decide (g ≥ 4) = b) : Calls Try.prog 25 #[.int .i64 g] w fun e w' => e = .returned (.bool b) ∧ ∃ n, w' = w.drewN n :=
  (turns_segno.calls g b w (by unfold turns_segno.f; rw [h])).mono fun e w' ⟨h1, h2⟩ => ⟨h1, h2.out⟩

theorem keep_alloc (w : World) (o : Obj) (g : Nat) : KeepBut w (w.alloc o) g none := KeepBut.of_below (below_alloc (Below.refl _ _) o) g none
theorem keep_alloc' {w W : World} {g : Nat} {o : Obj} (h : KeepBut w W g none) : KeepBut w (W.alloc o) g none := h.trans (keep_alloc W o g) (.inl rfl)
theorem keep_drewN' {w W : World} {g n : Nat} (h : KeepBut w W g none) : KeepBut w (W.drewN n) g none := h
theorem keep_drew' {w W : World} {g : Nat} (h : KeepBut w W g none) : KeepBut w W.drew g none := h
theorem keep_set' {w W : World} {g i : Nat} {v : Value} (h : KeepBut w W g none) : KeepBut w (W.setCell ⟨g, i, none⟩ v) g none := h.set_ i v
theorem below_setg {w0 W : World} {g i : Nat} {v : Value} (h : Below w0.heap.size w0 W) (hg : w0.heap.size ≤ g) : Below w0.heap.size w0 (W.setCell ⟨g, i, none⟩ v) := h.setCell (p := ⟨g, i, none⟩) hg v

set_option maxHeartbeats 16000000 in
set_option maxRecDepth 100000 in
theorem on_any (g : Nat) (l : List (S38)) (s c j : Int) (k : Wk) (x : S38) (A1 : Option Addr) (c1 : Nat) (r : Option Wk) (w0 w : World) (hI : IsWk w0 w g l s c j k)
    (hB : Below w0.heap.size w0 w) (hb0 : 0 ≤ k.bar) (hb1 : k.bar ≤ 140737488351232) (hp0 : 0 ≤ k.pass) (hp1 : k.pass ≤ 140737488351232) (h : onW s c k x = r) :
    Calls Try.prog 49 #[.pointer (some ⟨g, 0, none⟩), .agg #[.bool x.f0, .int .i64 x.f1, .slice A1 x.f2.length c1, .bool x.f3, .bool x.f4, .bool x.f5, .bool x.f6, .int .i64 x.f7]] w fun e w' =>
      e = .returned (.bool r.isSome) ∧ IsWk w0 w' g l s c j (r.getD k) ∧ Below w0.heap.size w0 w' ∧ KeepBut w w' g none := by
  have hu38 := Try.underlying38
  have HI := Aside0.mk hI
  have HB := Aside0.mk hB
  have hg : w0.heap.size ≤ g := IsS71.ge hI
  have hlt : g < w.heap.size := IsS71.lt hI
  have hne : ¬ g = w.heap.size := by omega
  obtain ⟨A0, c0, HG, _, _⟩ := hI
  have e2 : w.cell? ⟨g, 2, none⟩ = some (.int .i64 c) := (blk_cell HG 2).trans rfl
  have e1 : w.cell? ⟨g, 1, none⟩ = some (.int .i64 s) := (blk_cell HG 1).trans rfl
  have e4 : w.cell? ⟨g, 4, none⟩ = some (.int .i64 k.bar) := (blk_cell HG 4).trans rfl
  have e5 : w.cell? ⟨g, 5, none⟩ = some (.int .i64 k.pass) := (blk_cell HG 5).trans rfl
  have e6 : w.cell? ⟨g, 6, none⟩ = some (.int .i64 k.mark) := (blk_cell HG 6).trans rfl
  have e7 : w.cell? ⟨g, 7, none⟩ = some (.bool k.closed) := (blk_cell HG 7).trans rfl
  have e8 : w.cell? ⟨g, 8, none⟩ = some (.int .i64 k.jump) := (blk_cell HG 8).trans rfl
  have e9 : w.cell? ⟨g, 9, none⟩ = some (.bool k.fn) := (blk_cell HG 9).trans rfl
  have e10 : w.cell? ⟨g, 10, none⟩ = some (.bool k.cd) := (blk_cell HG 10).trans rfl
  have f4 := blk_frozen HG 4
  have f5 := blk_frozen HG 5
  have f6 := blk_frozen HG 6
  have f7 := blk_frozen HG 7
  have f8 := blk_frozen HG 8
  have f9 := blk_frozen HG 9
  have f10 := blk_frozen HG 10
  clear HG hB
  obtain ⟨bar, pass, mark, closed, jump, fn, cd⟩ := k
  obtain ⟨x0, x1, x2, x3, x4, x5, x6, x7⟩ := x
  unfold onW at h
  dsimp only at *
  have HA : Aside0 (∀ o, IsWk w0 (w.alloc o) g l s c j ⟨bar, pass, mark, closed, jump, fn, cd⟩) := ⟨fun o => IsS71.alloc HI.out o⟩
  have HBA : Aside0 (∀ o, Below w0.heap.size w0 (w.alloc o)) := ⟨fun o => below_alloc HB.out o⟩
  have HKA : Aside0 (∀ o, KeepBut w (w.alloc o) g none) := ⟨fun o => KeepBut.of_below (below_alloc (Below.refl _ _) o) g none⟩
  have HLT := Aside0.mk hlt
  have HP : Aside0 (0 ≤ bar ∧ bar ≤ 140737488351232 ∧ 0 ≤ pass ∧ pass ≤ 140737488351232) := ⟨hb0, hb1, hp0, hp1⟩
  by_cases h1 : (fn && x6) = true
  · rw [if_pos h1] at h
    subst h
    obtain ⟨hfn, h6⟩ := Bool.and_eq_true_iff.mp h1
    clear h1
    subst hfn
    subst h6
    go_enter Try.func49, Try.ntmps49
    go_wp2
    go_ret
    exact ⟨rfl, HA.out _, HBA.out _, HKA.out _⟩
  rw [if_neg h1] at h
  have H1 : Aside0 ((fn && x6) = false) := ⟨by simpa using h1⟩
  clear h1
  by_cases h2 : (cd && x5) = true
  · rw [if_pos h2] at h
    subst h
    obtain ⟨hcd, h5⟩ := Bool.and_eq_true_iff.mp h2
    clear h2
    subst hcd
    subst h5
    have h1 := H1.out
    cases fn <;> cases x6
    case true.true => cases h1
    all_goals
      clear h1 H1
      go_enter Try.func49, Try.ntmps49
      go_wp2_with ((with_reducible refine (to_any g l s c j ⟨bar, pass, mark, closed, jump, _, false⟩ c w0 _ (IsS71.alloc (IsS71.set_10 HI.out false) _) (below_alloc (below_setg HB.out hg) _)).mono ?_); rintro e w2 ⟨rfl, hw, hb, hk⟩; have HW := Aside0.mk hw; have HB2 := Aside0.mk hb; have HK2 := Aside0.mk hk; clear hw hb hk)
      go_ret
      exact ⟨rfl, HW.out, HB2.out, (((KeepBut.refl w g none).set_ _ _).trans (keep_alloc _ _ g) (.inl rfl)).trans HK2.out (.inl rfl)⟩
  rw [if_neg h2] at h
  have H2 : Aside0 ((cd && x5) = false) := ⟨by simpa using h2⟩
  clear h2
  have hfx : (fn = false) ∨ (fn = true ∧ x6 = false) := by have := H1.out; cases fn <;> simp_all
  have hcx : (cd = false) ∨ (cd = true ∧ x5 = false) := by have := H2.out; cases cd <;> simp_all
  have HFX := Aside0.mk hfx
  have HCX := Aside0.mk hcx
  have hbw : bar + 1 ≤ 140737488351233 := by omega
  have hpw : pass + 1 ≤ 140737488351233 := by omega
  clear H1 H2 hfx hcx
  go_enter Try.func49, Try.ntmps49
  go_upto_region 2 with (fail)
  obtain ⟨W1, hW1⟩ : ∃ W1, w.alloc (.cells #[.bool x0, .int .i64 x1, .slice A1 x2.length c1, .bool x3, .bool x4, .bool x5, .bool x6, .int .i64 x7] 38) = W1 := ⟨_, rfl⟩
  rw [hW1]
  have HI1 : Aside0 (IsS71 w0 W1 g l s c j bar pass mark closed jump fn cd) := ⟨by rw [← hW1]; exact IsS71.alloc HI.out _⟩
  have HB1 : Aside0 (Below w0.heap.size w0 W1) := ⟨by rw [← hW1]; exact below_alloc HB.out _⟩
  have HK1 : Aside0 (KeepBut w W1 g none) := ⟨by rw [← hW1]; exact keep_alloc' (KeepBut.refl _ _ _)⟩
  have HT : Aside0 (W1.heap[w.heap.size]? = some (.cells #[.bool x0, .int .i64 x1, .slice A1 x2.length c1, .bool x3, .bool x4, .bool x5, .bool x6, .int .i64 x7] 38 (0, 0))) := ⟨by rw [← hW1]; exact heap_alloc_new w _⟩
  obtain ⟨B, hBw⟩ : ∃ B, w.heap.size = B := ⟨_, rfl⟩
  rw [hBw] at HT ⊢ hne
  clear hW1 e1 e2 e4 e5 e6 e7 e8 e9 e10 f4 f5 f6 f7 f8 f9 f10 hBw hlt
  obtain ⟨A0', c0', HG1, _, _⟩ := HI1.out
  have e1 : W1.cell? ⟨g, 1, none⟩ = some (.int .i64 s) := (blk_cell HG1 1).trans rfl
  have e2 : W1.cell? ⟨g, 2, none⟩ = some (.int .i64 c) := (blk_cell HG1 2).trans rfl
  have e4 : W1.cell? ⟨g, 4, none⟩ = some (.int .i64 bar) := (blk_cell HG1 4).trans rfl
  have e5 : W1.cell? ⟨g, 5, none⟩ = some (.int .i64 pass) := (blk_cell HG1 5).trans rfl
  have e6 : W1.cell? ⟨g, 6, none⟩ = some (.int .i64 mark) := (blk_cell HG1 6).trans rfl
  have e7 : W1.cell? ⟨g, 7, none⟩ = some (.bool closed) := (blk_cell HG1 7).trans rfl
  have e8 : W1.cell? ⟨g, 8, none⟩ = some (.int .i64 jump) := (blk_cell HG1 8).trans rfl
  have e9 : W1.cell? ⟨g, 9, none⟩ = some (.bool fn) := (blk_cell HG1 9).trans rfl
  have e10 : W1.cell? ⟨g, 10, none⟩ = some (.bool cd) := (blk_cell HG1 10).trans rfl
  have f4 := blk_frozen HG1 4
  have f5 := blk_frozen HG1 5
  have f6 := blk_frozen HG1 6
  have f7 := blk_frozen HG1 7
  have f8 := blk_frozen HG1 8
  have f9 := blk_frozen HG1 9
  have f10 := blk_frozen HG1 10
  clear HG1
  have t1 : W1.cell? ⟨B, 1, none⟩ = some (.int .i64 x1) := (blk_cell HT.out 1).trans rfl
  have t5 : W1.cell? ⟨B, 5, none⟩ = some (.bool x5) := (blk_cell HT.out 5).trans rfl
  have t6 : W1.cell? ⟨B, 6, none⟩ = some (.bool x6) := (blk_cell HT.out 6).trans rfl
  have t7 : W1.cell? ⟨B, 7, none⟩ = some (.int .i64 x7) := (blk_cell HT.out 7).trans rfl
  go_cut [11] (fun v11 wc => v11 = .bool false ∧ W1 = wc)
  case first =>
    rcases HFX.out with rfl | ⟨rfl, rfl⟩
    all_goals
      go_wp2
      go_meet
      case rel => exact ⟨rfl, rfl⟩
  case rest =>
  clear HFX
  obtain ⟨rfl, rfl⟩ := hcut
  go_upto_region 4 with (fail)
  go_cut [20] (fun v20 wc => v20 = .bool false ∧ W1 = wc)
  case first =>
    rcases HCX.out with rfl | ⟨rfl, rfl⟩
    all_goals
      go_wp2
      go_meet
      case rel => exact ⟨rfl, rfl⟩
  case rest =>
  clear HCX
  obtain ⟨rfl, rfl⟩ := hcut
  by_cases h3 : jump = 0 ∧ pass < x1
  · rw [if_pos h3] at h
    subst h
    obtain ⟨hj, hp⟩ := h3
    subst hj
    have hpb : decide (pass < x1) = true := decide_eq_true hp
    clear hp
    go_wp2
    go_quiet (fail)
    go_wp2
    go_region
    go_wp2
    go_ret
    refine ⟨rfl, ?_, ?_, ?_⟩
    · show IsS71 _ _ _ _ _ _ _ _ _ _ _ _ _ _
      simp only [Option.getD_some, Bool.false_or, Bool.true_or, gt_iff_lt]
      repeat (with_reducible first | exact HI1.out | apply IsS71.alloc | apply IsS71.drewN | apply IsS71.drew | apply IsS71.set_4 | apply IsS71.set_5 | apply IsS71.set_6 | apply IsS71.set_7 | apply IsS71.set_8 | apply IsS71.set_9 | apply IsS71.set_10)
    · repeat (with_reducible first | exact HB1.out | apply below_alloc | apply pw_below_drewN | apply below_drew1 | (refine below_setg ?_ hg))
    · repeat (with_reducible first | exact HK1.out | apply keep_alloc' | apply keep_drewN' | apply keep_drew' | apply keep_set')
  rw [if_neg h3] at h
  by_cases hj : jump = 0
  · have hpb : decide (pass < x1) = false := decide_eq_false (fun hp => h3 ⟨hj, hp⟩)
    subst hj
    clear h3
    by_cases h7 : x7 = 0
    · rw [if_pos (.inr h7)] at h
      subst h
      subst h7
      cases closed
      all_goals
        go_wp2
        go_quiet (fail)
        go_wp2
        go_ret
        refine ⟨rfl, ?_, ?_, ?_⟩
        · show IsS71 _ _ _ _ _ _ _ _ _ _ _ _ _ _
          simp only [Option.getD_some, Bool.false_or, Bool.true_or, gt_iff_lt]
          repeat (with_reducible first | exact HI1.out | apply IsS71.alloc | apply IsS71.drewN | apply IsS71.drew | apply IsS71.set_4 | apply IsS71.set_5 | apply IsS71.set_6 | apply IsS71.set_7 | apply IsS71.set_8 | apply IsS71.set_9 | apply IsS71.set_10)
        · repeat (with_reducible first | exact HB1.out | apply below_alloc | apply pw_below_drewN | apply below_drew1 | (refine below_setg ?_ hg))
        · repeat (with_reducible first | exact HK1.out | apply keep_alloc' | apply keep_drewN' | apply keep_drew' | apply keep_set')
    · rw [if_neg (by intro h; rcases h with h | h; exact h rfl; exact h7 h)] at h
      have h7b : (x7 == 0) = false := beq_eq_false_iff_ne.mpr h7
      obtain ⟨fb, hfb⟩ : ∃ fb, isFine x7 = fb := ⟨_, rfl⟩
      obtain ⟨cb, hcb⟩ : ∃ cb, isCoda x7 = cb := ⟨_, rfl⟩
      rw [hfb, hcb] at h
      subst h
      have HFB := Aside0.mk hfb
      have HCB := Aside0.mk hcb
      clear h7 hfb hcb
      cases closed
      case false =>
        go_wp2
        go_quiet (fail)
        go_wp2
        obtain ⟨W2, hW2⟩ : ∃ W2, (W1.drewN nq).setCell ⟨g, 7, none⟩ (.bool (decide (0 < x1))) = W2 := ⟨_, rfl⟩
        rw [hW2]
        have HI2 : Aside0 (IsS71 w0 W2 g l s c j bar pass mark (decide (0 < x1)) 0 fn cd) := ⟨by rw [← hW2]; exact IsS71.set_7 (IsS71.drewN HI1.out _) _⟩
        have HB2 : Aside0 (Below w0.heap.size w0 W2) := ⟨by rw [← hW2]; exact below_setg (pw_below_drewN HB1.out _) hg⟩
        have HK2 : Aside0 (KeepBut w W2 g none) := ⟨by rw [← hW2]; exact keep_set' (keep_drewN' HK1.out)⟩
        have HT2 : Aside0 (W2.heap[B]? = some (.cells #[.bool x0, .int .i64 x1, .slice A1 x2.length c1, .bool x3, .bool x4, .bool x5, .bool x6, .int .i64 x7] 38 (0, 0))) := ⟨by rw [← hW2]; exact (Below.heap_setCell _ _ _ _ (Ne.symm hne)).trans HT.out⟩
        clear hW2 e1 e2 e4 e5 e6 e7 e8 e9 e10 f4 f5 f6 f7 f8 f9 f10 t1 t5 t6 t7
        obtain ⟨A0', c0', HG2, _, _⟩ := HI2.out
        have e1 : W2.cell? ⟨g, 1, none⟩ = some (.int .i64 s) := (blk_cell HG2 1).trans rfl
        have e8 : W2.cell? ⟨g, 8, none⟩ = some (.int .i64 0) := (blk_cell HG2 8).trans rfl
        have e9 : W2.cell? ⟨g, 9, none⟩ = some (.bool fn) := (blk_cell HG2 9).trans rfl
        have e10 : W2.cell? ⟨g, 10, none⟩ = some (.bool cd) := (blk_cell HG2 10).trans rfl
        have f8 := blk_frozen HG2 8
        have f9 := blk_frozen HG2 9
        have f10 := blk_frozen HG2 10
        clear HG2
        have H7 : Aside0 (W2.cell? ⟨B, 7, none⟩ = some (.int .i64 x7)) := ⟨(blk_cell HT2.out 7).trans rfl⟩
        refine start_ (n := 20) (S := fun w' => w'.cell? ⟨B, 7, none⟩ = some (.int .i64 x7) ∧ (∃ n, w' = W2.drewN n)) (ds := [13, 16, 19]) #[false, false, false, false, false, false, false, false, false, false, false, false, false, false, false, false, false, false, false, false] (by kernel_rfl) rfl rfl ⟨H7.out, ⟨1, rfl⟩⟩ (fun hHeld => ?_)
        refine pure_ (i := 0) (N := some 94) (v := ?_) (a' := ?_) #[true, false, false, false, false, false, false, false, false, false, false, false, false, false, false, false, false, false, false, false] rfl rfl (by kernel_rfl) (fun _ _ _ h => h) (Or.inl ⟨by rfl, ?_⟩) ?_ ?_
        rotate_left
        · intro w'
          go_simp
          with_reducible rfl
        rotate_left
        · simp only [Act.put, List.setIfInBounds_toArray, List.set_cons_zero, List.set_cons_succ, i64_w, i32_w]
          rfl
        refine pure_ (i := 1) (N := some 95) (v := ?_) (a' := ?_) #[true, true, false, false, false, false, false, false, false, false, false, false, false, false, false, false, false, false, false, false] rfl rfl (by kernel_rfl) (fun _ _ _ h => h) (Or.inl ⟨by rfl, ?_⟩) ?_ ?_
        rotate_left
        · intro w'
          go_simp
          with_reducible rfl
        rotate_left
        · simp only [Act.put, List.setIfInBounds_toArray, List.set_cons_zero, List.set_cons_succ, i64_w, i32_w]
          rfl
        refine pure_ (i := 2) (N := some 96) (v := ?_) (a' := ?_) #[true, true, true, false, false, false, false, false, false, false, false, false, false, false, false, false, false, false, false, false] rfl rfl (by kernel_rfl) (fun _ _ _ h => h) (Or.inl ⟨by rfl, ?_⟩) ?_ ?_
        rotate_left
        · intro w'
          go_simp
          with_reducible rfl
        rotate_left
        · simp only [Act.put, List.setIfInBounds_toArray, List.set_cons_zero, List.set_cons_succ, i64_w, i32_w]
          rfl
        refine pure_ (i := 3) (N := some 97) (v := ?_) (a' := ?_) #[true, true, true, true, false, false, false, false, false, false, false, false, false, false, false, false, false, false, false, false] rfl rfl (by kernel_rfl) (fun _ _ _ h => h) (Or.inl ⟨by rfl, ?_⟩) ?_ ?_
        rotate_left
        · intro w'
          go_simp
          with_reducible rfl
        rotate_left
        · simp only [Act.put, List.setIfInBounds_toArray, List.set_cons_zero, List.set_cons_succ, i64_w, i32_w]
          rfl
        refine pure_ (i := 5) (N := some 99) (v := ?_) (a' := ?_) #[true, true, true, true, false, true, false, false, false, false, false, false, false, false, false, false, false, false, false, false] rfl rfl (by kernel_rfl) (fun _ _ _ h => h) (Or.inl ⟨by rfl, ?_⟩) ?_ ?_
        rotate_left
        · intro w'
          go_simp
          with_reducible rfl
        rotate_left
        · simp only [Act.put, List.setIfInBounds_toArray, List.set_cons_zero, List.set_cons_succ, i64_w, i32_w]
          rfl
        refine pure_ (i := 8) (N := some 102) (v := ?_) (a' := ?_) #[true, true, true, true, false, true, false, false, true, false, false, false, false, false, false, false, false, false, false, false] rfl rfl (by kernel_rfl) (fun _ _ _ h => h) (Or.inl ⟨by rfl, ?_⟩) ?_ ?_
        rotate_left
        · intro w'
          go_simp
          with_reducible rfl
        rotate_left
        · simp only [Act.put, List.setIfInBounds_toArray, List.set_cons_zero, List.set_cons_succ, i64_w, i32_w]
          rfl
        refine take_ (i := 4) (N := some 98) (v := ?_) (a' := ?_) #[true, true, true, true, true, true, false, false, true, false, false, false, false, false, false, false, false, false, false, false] rfl rfl (by kernel_rfl) (fun _ _ _ h => h) (Or.inl ⟨by rfl, ?_⟩) hHeld ?_ ?_
        rotate_left
        · rintro w' ⟨s0, s1⟩
          go_simp
          with_reducible rfl
        rotate_left
        · simp only [Act.put, List.setIfInBounds_toArray, List.set_cons_zero, List.set_cons_succ, i64_w, i32_w]
          rfl
        refine take_ (i := 6) (N := some 100) (v := ?_) (a' := ?_) #[true, true, true, true, true, true, true, false, true, false, false, false, false, false, false, false, false, false, false, false] rfl rfl (by kernel_rfl) (fun _ _ _ h => h) (Or.inl ⟨by rfl, ?_⟩) hHeld ?_ ?_
        rotate_left
        · rintro w' ⟨s0, s1⟩
          go_simp
          with_reducible rfl
        rotate_left
        · simp only [Act.put, List.setIfInBounds_toArray, List.set_cons_zero, List.set_cons_succ, i64_w, i32_w]
          rfl
        refine take_ (i := 9) (N := some 103) (v := ?_) (a' := ?_) #[true, true, true, true, true, true, true, false, true, true, false, false, false, false, false, false, false, false, false, false] rfl rfl (by kernel_rfl) (fun _ _ _ h => h) (Or.inl ⟨by rfl, ?_⟩) hHeld ?_ ?_
        rotate_left
        · rintro w' ⟨s0, s1⟩
          go_simp
          with_reducible rfl
        rotate_left
        · simp only [Act.put, List.setIfInBounds_toArray, List.set_cons_zero, List.set_cons_succ, i64_w, i32_w]
          rfl
        refine one_ (i := 7) (N := some 101) #[true, true, true, true, true, true, true, true, true, true, false, false, false, false, false, false, false, false, false, false] rfl rfl (by kernel_rfl) (by decide) (fun K hK => ?_)
        obtain ⟨nq, hq⟩ := hHeld.2
        refine goes_ Try.func26 (by kernel_rfl) rfl #[.int .i64 x7] (by rfl) rfl rfl (by simp only [List.map_toArray, List.map_cons, List.map_nil]; rfl) ?_
        with_reducible refine (fine_d x7 fb _ HFB.out).mono ?_
        rintro e w3 ⟨rfl, ⟨⟨nd, rfl⟩⟩⟩
        refine ⟨_, rfl, ?_⟩
        refine hK.out _ _ ⟨hHeld.1, ⟨nq + nd, by rw [hq, World.drewN_drewN]⟩⟩ (fun hHeld => ?_)
        clear hK K
        refine norm_ (a' := ?_) ?_ ?_
        rotate_left
        · show Act.put _ (some 101) _ = _
          simp only [Act.put, List.setIfInBounds_toArray, List.set_cons_zero, List.set_cons_succ, i64_w, i32_w]
          rfl
        refine one_ (i := 10) (N := some 104) #[true, true, true, true, true, true, true, true, true, true, true, false, false, false, false, false, false, false, false, false] rfl rfl (by kernel_rfl) (by decide) (fun K hK => ?_)
        obtain ⟨nq, hq⟩ := hHeld.2
        refine goes_ Try.func29 (by kernel_rfl) rfl #[.int .i64 x7] (by rfl) rfl rfl (by simp only [List.map_toArray, List.map_cons, List.map_nil]; rfl) ?_
        with_reducible refine (coda_d x7 cb _ HCB.out).mono ?_
        rintro e w3 ⟨rfl, ⟨⟨nd, rfl⟩⟩⟩
        refine ⟨_, rfl, ?_⟩
        refine hK.out _ _ ⟨hHeld.1, ⟨nq + nd, by rw [hq, World.drewN_drewN]⟩⟩ (fun hHeld => ?_)
        clear hK K
        refine norm_ (a' := ?_) ?_ ?_
        rotate_left
        · show Act.put _ (some 104) _ = _
          simp only [Act.put, List.setIfInBounds_toArray, List.set_cons_zero, List.set_cons_succ, i64_w, i32_w]
          rfl
        refine pure_ (i := 11) (N := some 105) (v := ?_) (a' := ?_) #[true, true, true, true, true, true, true, true, true, true, true, true, false, false, false, false, false, false, false, false] rfl rfl (by kernel_rfl) (fun _ _ _ h => h) (Or.inl ⟨by rfl, ?_⟩) ?_ ?_
        rotate_left
        · intro w'
          go_simp
          with_reducible rfl
        rotate_left
        · simp only [Act.put, List.setIfInBounds_toArray, List.set_cons_zero, List.set_cons_succ, i64_w, i32_w]
          rfl
        refine pure_ (i := 12) (N := some 106) (v := ?_) (a' := ?_) #[true, true, true, true, true, true, true, true, true, true, true, true, true, false, false, false, false, false, false, false] rfl rfl (by kernel_rfl) (fun _ _ _ h => h) (Or.inl ⟨by rfl, ?_⟩) ?_ ?_
        rotate_left
        · intro w'
          go_simp
          with_reducible rfl
        rotate_left
        · simp only [Act.put, List.setIfInBounds_toArray, List.set_cons_zero, List.set_cons_succ, i64_w, i32_w]
          rfl
        refine last_ (i := 13) (N := none) #[true, true, true, true, true, true, true, true, true, true, true, true, true, true, false, false, false, false, false, false] rfl rfl (by kernel_rfl) (by decide) (fun K hK => ?_)
        refine skip_ (w1 := ?_) (by rfl) rfl ?_ ?_
        rotate_left
        · go_simp
          rfl
        refine hK.out _ _ ?_
        clear hK K
        refine pure_ (i := 14) (N := some 107) (v := ?_) (a' := ?_) #[true, true, true, true, true, true, true, true, true, true, true, true, true, true, true, false, false, false, false, false] rfl rfl (by kernel_rfl) (fun _ _ _ h => h) (Or.inl ⟨by rfl, ?_⟩) ?_ ?_
        rotate_left
        · intro w'
          go_simp
          with_reducible rfl
        rotate_left
        · simp only [Act.put, List.setIfInBounds_toArray, List.set_cons_zero, List.set_cons_succ, i64_w, i32_w]
          rfl
        refine pure_ (i := 15) (N := some 108) (v := ?_) (a' := ?_) #[true, true, true, true, true, true, true, true, true, true, true, true, true, true, true, true, false, false, false, false] rfl rfl (by kernel_rfl) (fun _ _ _ h => h) (Or.inl ⟨by rfl, ?_⟩) ?_ ?_
        rotate_left
        · intro w'
          go_simp
          with_reducible rfl
        rotate_left
        · simp only [Act.put, List.setIfInBounds_toArray, List.set_cons_zero, List.set_cons_succ, i64_w, i32_w]
          rfl
        refine last_ (i := 16) (N := none) #[true, true, true, true, true, true, true, true, true, true, true, true, true, true, true, true, true, false, false, false] rfl rfl (by kernel_rfl) (by decide) (fun K hK => ?_)
        refine skip_ (w1 := ?_) (by rfl) rfl ?_ ?_
        rotate_left
        · go_simp
          rfl
        refine hK.out _ _ ?_
        clear hK K
        refine pure_ (i := 17) (N := some 109) (v := ?_) (a' := ?_) #[true, true, true, true, true, true, true, true, true, true, true, true, true, true, true, true, true, true, false, false] rfl rfl (by kernel_rfl) (fun _ _ _ h => h) (Or.inl ⟨by rfl, ?_⟩) ?_ ?_
        rotate_left
        · intro w'
          go_simp
          with_reducible rfl
        rotate_left
        · simp only [Act.put, List.setIfInBounds_toArray, List.set_cons_zero, List.set_cons_succ, i64_w, i32_w]
          rfl
        refine pure_ (i := 18) (N := some 110) (v := ?_) (a' := ?_) #[true, true, true, true, true, true, true, true, true, true, true, true, true, true, true, true, true, true, true, false] rfl rfl (by kernel_rfl) (fun _ _ _ h => h) (Or.inl ⟨by rfl, ?_⟩) ?_ ?_
        rotate_left
        · intro w'
          go_simp
          with_reducible rfl
        rotate_left
        · simp only [Act.put, List.setIfInBounds_toArray, List.set_cons_zero, List.set_cons_succ, i64_w, i32_w]
          rfl
        refine last_ (i := 19) (N := none) #[true, true, true, true, true, true, true, true, true, true, true, true, true, true, true, true, true, true, true, true] rfl rfl (by kernel_rfl) (by decide) (fun K hK => ?_)
        refine skip_ (w1 := ?_) (by rfl) rfl ?_ ?_
        rotate_left
        · go_simp
          rfl
        refine hK.out _ _ ?_
        clear hK K
        refine done_ (by kernel_rfl) ?_
        have HI3 : Aside0 (∀ n, IsS71 w0 ((((W2.drewN n).setCell ⟨g, 8, none⟩ (.int .i64 x7)).setCell ⟨g, 9, none⟩ (.bool fb)).setCell ⟨g, 10, none⟩ (.bool cb)) g l s c j bar pass mark (decide (0 < x1)) x7 fb cb) := ⟨fun n => IsS71.set_10 (IsS71.set_9 (IsS71.set_8 (IsS71.drewN HI2.out n) _) _) _⟩
        have HB3 : Aside0 (∀ n, Below w0.heap.size w0 ((((W2.drewN n).setCell ⟨g, 8, none⟩ (.int .i64 x7)).setCell ⟨g, 9, none⟩ (.bool fb)).setCell ⟨g, 10, none⟩ (.bool cb))) := ⟨fun n => below_setg (below_setg (below_setg (pw_below_drewN HB2.out n) hg) hg) hg⟩
        have HT3 : Aside0 (∀ n, ((((W2.drewN n).setCell ⟨g, 8, none⟩ (.int .i64 x7)).setCell ⟨g, 9, none⟩ (.bool fb)).setCell ⟨g, 10, none⟩ (.bool cb)).heap[B]? = some (.cells #[.bool x0, .int .i64 x1, .slice A1 x2.length c1, .bool x3, .bool x4, .bool x5, .bool x6, .int .i64 x7] 38 (0, 0))) := ⟨fun n => (Below.heap_setCell _ _ _ _ (Ne.symm hne)).trans ((Below.heap_setCell _ _ _ _ (Ne.symm hne)).trans ((Below.heap_setCell _ _ _ _ (Ne.symm hne)).trans HT2.out))⟩
        clear e1 e8 e9 e10 f8 f9 f10 H7
        obtain ⟨sgb, hsgb⟩ : ∃ sgb, decide (x7 ≥ 4) = sgb := ⟨_, rfl⟩
        have HSG := Aside0.mk hsgb
        clear hsgb
        go_wp2_with ((with_reducible refine (to_any g l s c j ⟨bar, pass, mark, (decide (0 < x1)), x7, fb, cb⟩ 0 w0 _ (HI3.out _) (HB3.out _)).mono ?_); rintro e w4 ⟨rfl, hw, hb, hk⟩; have HW4 := Aside0.mk hw; have HB4 := Aside0.mk hb; have HK4 := Aside0.mk hk; clear hw hb hk; have t7 : w4.cell? ⟨B, 7, none⟩ = some (.int .i64 x7) := (blk_cell ((HK4.out.2 _ (lt_of_block (HT3.out _)) (Ne.symm hne) (by simp)).trans (HT3.out _)) 7).trans rfl)
        cases sgb with
        | true =>
          have hs4 : x7 ≥ 4 := of_decide_eq_true HSG.out
          obtain ⟨A0', c0', HG4, _, _⟩ := HW4.out
          have e1 : w4.cell? ⟨g, 1, none⟩ = some (.int .i64 s) := (blk_cell HG4 1).trans rfl
          clear HG4
          go_wp2_with ((with_reducible refine (seg_any x7 true _ HSG.out).mono ?_); rintro e w5 ⟨rfl, n5, rfl⟩)
          go_wp2_with ((with_reducible refine (to_any g l s c j (Wk.to ⟨bar, pass, mark, (decide (0 < x1)), x7, fb, cb⟩ 0) s w0 _ (IsS71.drewN HW4.out _) (pw_below_drewN HB4.out _)).mono ?_); rintro e w6 ⟨rfl, hw, hb, hk⟩; have HW6 := Aside0.mk hw; have HB6 := Aside0.mk hb; have HK6 := Aside0.mk hk; clear hw hb hk)
          go_ret
          refine ⟨rfl, ?_, HB6.out, ?_⟩
          · exact HW6.out
          · exact (((keep_set' (keep_set' (keep_set' (keep_drewN' HK2.out)))).trans HK4.out (.inl rfl))).trans (show KeepBut w4 w6 g none from HK6.out) (.inl rfl)
        | false =>
          have hs4 : ¬ x7 ≥ 4 := of_decide_eq_false HSG.out
          go_wp2_with ((with_reducible refine (seg_any x7 false _ HSG.out).mono ?_); rintro e w5 ⟨rfl, n5, rfl⟩)
          go_ret
          refine ⟨rfl, ?_, pw_below_drewN HB4.out _, ?_⟩
          · exact IsS71.drewN HW4.out _
          · exact keep_drewN' ((keep_set' (keep_set' (keep_set' (keep_drewN' HK2.out)))).trans HK4.out (.inl rfl))
      case true =>
        go_wp2
        go_quiet (fail)
        go_wp2
        obtain ⟨W2, hW2⟩ : ∃ W2, (W1.drewN nq).setCell ⟨g, 7, none⟩ (.bool true) = W2 := ⟨_, rfl⟩
        rw [hW2]
        have HI2 : Aside0 (IsS71 w0 W2 g l s c j bar pass mark true 0 fn cd) := ⟨by rw [← hW2]; exact IsS71.set_7 (IsS71.drewN HI1.out _) _⟩
        have HB2 : Aside0 (Below w0.heap.size w0 W2) := ⟨by rw [← hW2]; exact below_setg (pw_below_drewN HB1.out _) hg⟩
        have HK2 : Aside0 (KeepBut w W2 g none) := ⟨by rw [← hW2]; exact keep_set' (keep_drewN' HK1.out)⟩
        have HT2 : Aside0 (W2.heap[B]? = some (.cells #[.bool x0, .int .i64 x1, .slice A1 x2.length c1, .bool x3, .bool x4, .bool x5, .bool x6, .int .i64 x7] 38 (0, 0))) := ⟨by rw [← hW2]; exact (Below.heap_setCell _ _ _ _ (Ne.symm hne)).trans HT.out⟩
        clear hW2 e1 e2 e4 e5 e6 e7 e8 e9 e10 f4 f5 f6 f7 f8 f9 f10 t1 t5 t6 t7
        obtain ⟨A0', c0', HG2, _, _⟩ := HI2.out
        have e1 : W2.cell? ⟨g, 1, none⟩ = some (.int .i64 s) := (blk_cell HG2 1).trans rfl
        have e8 : W2.cell? ⟨g, 8, none⟩ = some (.int .i64 0) := (blk_cell HG2 8).trans rfl
        have e9 : W2.cell? ⟨g, 9, none⟩ = some (.bool fn) := (blk_cell HG2 9).trans rfl
        have e10 : W2.cell? ⟨g, 10, none⟩ = some (.bool cd) := (blk_cell HG2 10).trans rfl
        have f8 := blk_frozen HG2 8
        have f9 := blk_frozen HG2 9
        have f10 := blk_frozen HG2 10
        clear HG2
        have H7 : Aside0 (W2.cell? ⟨B, 7, none⟩ = some (.int .i64 x7)) := ⟨(blk_cell HT2.out 7).trans rfl⟩
        refine start_ (n := 20) (S := fun w' => w'.cell? ⟨B, 7, none⟩ = some (.int .i64 x7) ∧ (∃ n, w' = W2.drewN n)) (ds := [13, 16, 19]) #[false, false, false, false, false, false, false, false, false, false, false, false, false, false, false, false, false, false, false, false] (by kernel_rfl) rfl rfl ⟨H7.out, ⟨1, rfl⟩⟩ (fun hHeld => ?_)
        refine pure_ (i := 0) (N := some 94) (v := ?_) (a' := ?_) #[true, false, false, false, false, false, false, false, false, false, false, false, false, false, false, false, false, false, false, false] rfl rfl (by kernel_rfl) (fun _ _ _ h => h) (Or.inl ⟨by rfl, ?_⟩) ?_ ?_
        rotate_left
        · intro w'
          go_simp
          with_reducible rfl
        rotate_left
        · simp only [Act.put, List.setIfInBounds_toArray, List.set_cons_zero, List.set_cons_succ, i64_w, i32_w]
          rfl
        refine pure_ (i := 1) (N := some 95) (v := ?_) (a' := ?_) #[true, true, false, false, false, false, false, false, false, false, false, false, false, false, false, false, false, false, false, false] rfl rfl (by kernel_rfl) (fun _ _ _ h => h) (Or.inl ⟨by rfl, ?_⟩) ?_ ?_
        rotate_left
        · intro w'
          go_simp
          with_reducible rfl
        rotate_left
        · simp only [Act.put, List.setIfInBounds_toArray, List.set_cons_zero, List.set_cons_succ, i64_w, i32_w]
          rfl
        refine pure_ (i := 2) (N := some 96) (v := ?_) (a' := ?_) #[true, true, true, false, false, false, false, false, false, false, false, false, false, false, false, false, false, false, false, false] rfl rfl (by kernel_rfl) (fun _ _ _ h => h) (Or.inl ⟨by rfl, ?_⟩) ?_ ?_
        rotate_left
        · intro w'
          go_simp
          with_reducible rfl
        rotate_left
        · simp only [Act.put, List.setIfInBounds_toArray, List.set_cons_zero, List.set_cons_succ, i64_w, i32_w]
          rfl
        refine pure_ (i := 3) (N := some 97) (v := ?_) (a' := ?_) #[true, true, true, true, false, false, false, false, false, false, false, false, false, false, false, false, false, false, false, false] rfl rfl (by kernel_rfl) (fun _ _ _ h => h) (Or.inl ⟨by rfl, ?_⟩) ?_ ?_
        rotate_left
        · intro w'
          go_simp
          with_reducible rfl
        rotate_left
        · simp only [Act.put, List.setIfInBounds_toArray, List.set_cons_zero, List.set_cons_succ, i64_w, i32_w]
          rfl
        refine pure_ (i := 5) (N := some 99) (v := ?_) (a' := ?_) #[true, true, true, true, false, true, false, false, false, false, false, false, false, false, false, false, false, false, false, false] rfl rfl (by kernel_rfl) (fun _ _ _ h => h) (Or.inl ⟨by rfl, ?_⟩) ?_ ?_
        rotate_left
        · intro w'
          go_simp
          with_reducible rfl
        rotate_left
        · simp only [Act.put, List.setIfInBounds_toArray, List.set_cons_zero, List.set_cons_succ, i64_w, i32_w]
          rfl
        refine pure_ (i := 8) (N := some 102) (v := ?_) (a' := ?_) #[true, true, true, true, false, true, false, false, true, false, false, false, false, false, false, false, false, false, false, false] rfl rfl (by kernel_rfl) (fun _ _ _ h => h) (Or.inl ⟨by rfl, ?_⟩) ?_ ?_
        rotate_left
        · intro w'
          go_simp
          with_reducible rfl
        rotate_left
        · simp only [Act.put, List.setIfInBounds_toArray, List.set_cons_zero, List.set_cons_succ, i64_w, i32_w]
          rfl
        refine take_ (i := 4) (N := some 98) (v := ?_) (a' := ?_) #[true, true, true, true, true, true, false, false, true, false, false, false, false, false, false, false, false, false, false, false] rfl rfl (by kernel_rfl) (fun _ _ _ h => h) (Or.inl ⟨by rfl, ?_⟩) hHeld ?_ ?_
        rotate_left
        · rintro w' ⟨s0, s1⟩
          go_simp
          with_reducible rfl
        rotate_left
        · simp only [Act.put, List.setIfInBounds_toArray, List.set_cons_zero, List.set_cons_succ, i64_w, i32_w]
          rfl
        refine take_ (i := 6) (N := some 100) (v := ?_) (a' := ?_) #[true, true, true, true, true, true, true, false, true, false, false, false, false, false, false, false, false, false, false, false] rfl rfl (by kernel_rfl) (fun _ _ _ h => h) (Or.inl ⟨by rfl, ?_⟩) hHeld ?_ ?_
        rotate_left
        · rintro w' ⟨s0, s1⟩
          go_simp
          with_reducible rfl
        rotate_left
        · simp only [Act.put, List.setIfInBounds_toArray, List.set_cons_zero, List.set_cons_succ, i64_w, i32_w]
          rfl
        refine take_ (i := 9) (N := some 103) (v := ?_) (a' := ?_) #[true, true, true, true, true, true, true, false, true, true, false, false, false, false, false, false, false, false, false, false] rfl rfl (by kernel_rfl) (fun _ _ _ h => h) (Or.inl ⟨by rfl, ?_⟩) hHeld ?_ ?_
        rotate_left
        · rintro w' ⟨s0, s1⟩
          go_simp
          with_reducible rfl
        rotate_left
        · simp only [Act.put, List.setIfInBounds_toArray, List.set_cons_zero, List.set_cons_succ, i64_w, i32_w]
          rfl
        refine one_ (i := 7) (N := some 101) #[true, true, true, true, true, true, true, true, true, true, false, false, false, false, false, false, false, false, false, false] rfl rfl (by kernel_rfl) (by decide) (fun K hK => ?_)
        obtain ⟨nq, hq⟩ := hHeld.2
        refine goes_ Try.func26 (by kernel_rfl) rfl #[.int .i64 x7] (by rfl) rfl rfl (by simp only [List.map_toArray, List.map_cons, List.map_nil]; rfl) ?_
        with_reducible refine (fine_d x7 fb _ HFB.out).mono ?_
        rintro e w3 ⟨rfl, ⟨⟨nd, rfl⟩⟩⟩
        refine ⟨_, rfl, ?_⟩
        refine hK.out _ _ ⟨hHeld.1, ⟨nq + nd, by rw [hq, World.drewN_drewN]⟩⟩ (fun hHeld => ?_)
        clear hK K
        refine norm_ (a' := ?_) ?_ ?_
        rotate_left
        · show Act.put _ (some 101) _ = _
          simp only [Act.put, List.setIfInBounds_toArray, List.set_cons_zero, List.set_cons_succ, i64_w, i32_w]
          rfl
        refine one_ (i := 10) (N := some 104) #[true, true, true, true, true, true, true, true, true, true, true, false, false, false, false, false, false, false, false, false] rfl rfl (by kernel_rfl) (by decide) (fun K hK => ?_)
        obtain ⟨nq, hq⟩ := hHeld.2
        refine goes_ Try.func29 (by kernel_rfl) rfl #[.int .i64 x7] (by rfl) rfl rfl (by simp only [List.map_toArray, List.map_cons, List.map_nil]; rfl) ?_
        with_reducible refine (coda_d x7 cb _ HCB.out).mono ?_
        rintro e w3 ⟨rfl, ⟨⟨nd, rfl⟩⟩⟩
        refine ⟨_, rfl, ?_⟩
        refine hK.out _ _ ⟨hHeld.1, ⟨nq + nd, by rw [hq, World.drewN_drewN]⟩⟩ (fun hHeld => ?_)
        clear hK K
        refine norm_ (a' := ?_) ?_ ?_
        rotate_left
        · show Act.put _ (some 104) _ = _
          simp only [Act.put, List.setIfInBounds_toArray, List.set_cons_zero, List.set_cons_succ, i64_w, i32_w]
          rfl
        refine pure_ (i := 11) (N := some 105) (v := ?_) (a' := ?_) #[true, true, true, true, true, true, true, true, true, true, true, true, false, false, false, false, false, false, false, false] rfl rfl (by kernel_rfl) (fun _ _ _ h => h) (Or.inl ⟨by rfl, ?_⟩) ?_ ?_
        rotate_left
        · intro w'
          go_simp
          with_reducible rfl
        rotate_left
        · simp only [Act.put, List.setIfInBounds_toArray, List.set_cons_zero, List.set_cons_succ, i64_w, i32_w]
          rfl
        refine pure_ (i := 12) (N := some 106) (v := ?_) (a' := ?_) #[true, true, true, true, true, true, true, true, true, true, true, true, true, false, false, false, false, false, false, false] rfl rfl (by kernel_rfl) (fun _ _ _ h => h) (Or.inl ⟨by rfl, ?_⟩) ?_ ?_
        rotate_left
        · intro w'
          go_simp
          with_reducible rfl
        rotate_left
        · simp only [Act.put, List.setIfInBounds_toArray, List.set_cons_zero, List.set_cons_succ, i64_w, i32_w]
          rfl
        refine last_ (i := 13) (N := none) #[true, true, true, true, true, true, true, true, true, true, true, true, true, true, false, false, false, false, false, false] rfl rfl (by kernel_rfl) (by decide) (fun K hK => ?_)
        refine skip_ (w1 := ?_) (by rfl) rfl ?_ ?_
        rotate_left
        · go_simp
          rfl
        refine hK.out _ _ ?_
        clear hK K
        refine pure_ (i := 14) (N := some 107) (v := ?_) (a' := ?_) #[true, true, true, true, true, true, true, true, true, true, true, true, true, true, true, false, false, false, false, false] rfl rfl (by kernel_rfl) (fun _ _ _ h => h) (Or.inl ⟨by rfl, ?_⟩) ?_ ?_
        rotate_left
        · intro w'
          go_simp
          with_reducible rfl
        rotate_left
        · simp only [Act.put, List.setIfInBounds_toArray, List.set_cons_zero, List.set_cons_succ, i64_w, i32_w]
          rfl
        refine pure_ (i := 15) (N := some 108) (v := ?_) (a' := ?_) #[true, true, true, true, true, true, true, true, true, true, true, true, true, true, true, true, false, false, false, false] rfl rfl (by kernel_rfl) (fun _ _ _ h => h) (Or.inl ⟨by rfl, ?_⟩) ?_ ?_
        rotate_left
        · intro w'
          go_simp
          with_reducible rfl
        rotate_left
        · simp only [Act.put, List.setIfInBounds_toArray, List.set_cons_zero, List.set_cons_succ, i64_w, i32_w]
          rfl
        refine last_ (i := 16) (N := none) #[true, true, true, true, true, true, true, true, true, true, true, true, true, true, true, true, true, false, false, false] rfl rfl (by kernel_rfl) (by decide) (fun K hK => ?_)
        refine skip_ (w1 := ?_) (by rfl) rfl ?_ ?_
        rotate_left
        · go_simp
          rfl
        refine hK.out _ _ ?_
        clear hK K
        refine pure_ (i := 17) (N := some 109) (v := ?_) (a' := ?_) #[true, true, true, true, true, true, true, true, true, true, true, true, true, true, true, true, true, true, false, false] rfl rfl (by kernel_rfl) (fun _ _ _ h => h) (Or.inl ⟨by rfl, ?_⟩) ?_ ?_
        rotate_left
        · intro w'
          go_simp
          with_reducible rfl
        rotate_left
        · simp only [Act.put, List.setIfInBounds_toArray, List.set_cons_zero, List.set_cons_succ, i64_w, i32_w]
          rfl
        refine pure_ (i := 18) (N := some 110) (v := ?_) (a' := ?_) #[true, true, true, true, true, true, true, true, true, true, true, true, true, true, true, true, true, true, true, false] rfl rfl (by kernel_rfl) (fun _ _ _ h => h) (Or.inl ⟨by rfl, ?_⟩) ?_ ?_
        rotate_left
        · intro w'
          go_simp
          with_reducible rfl
        rotate_left
        · simp only [Act.put, List.setIfInBounds_toArray, List.set_cons_zero, List.set_cons_succ, i64_w, i32_w]
          rfl
        refine last_ (i := 19) (N := none) #[true, true, true, true, true, true, true, true, true, true, true, true, true, true, true, true, true, true, true, true] rfl rfl (by kernel_rfl) (by decide) (fun K hK => ?_)
        refine skip_ (w1 := ?_) (by rfl) rfl ?_ ?_
        rotate_left
        · go_simp
          rfl
        refine hK.out _ _ ?_
        clear hK K
        refine done_ (by kernel_rfl) ?_
        have HI3 : Aside0 (∀ n, IsS71 w0 ((((W2.drewN n).setCell ⟨g, 8, none⟩ (.int .i64 x7)).setCell ⟨g, 9, none⟩ (.bool fb)).setCell ⟨g, 10, none⟩ (.bool cb)) g l s c j bar pass mark true x7 fb cb) := ⟨fun n => IsS71.set_10 (IsS71.set_9 (IsS71.set_8 (IsS71.drewN HI2.out n) _) _) _⟩
        have HB3 : Aside0 (∀ n, Below w0.heap.size w0 ((((W2.drewN n).setCell ⟨g, 8, none⟩ (.int .i64 x7)).setCell ⟨g, 9, none⟩ (.bool fb)).setCell ⟨g, 10, none⟩ (.bool cb))) := ⟨fun n => below_setg (below_setg (below_setg (pw_below_drewN HB2.out n) hg) hg) hg⟩
        have HT3 : Aside0 (∀ n, ((((W2.drewN n).setCell ⟨g, 8, none⟩ (.int .i64 x7)).setCell ⟨g, 9, none⟩ (.bool fb)).setCell ⟨g, 10, none⟩ (.bool cb)).heap[B]? = some (.cells #[.bool x0, .int .i64 x1, .slice A1 x2.length c1, .bool x3, .bool x4, .bool x5, .bool x6, .int .i64 x7] 38 (0, 0))) := ⟨fun n => (Below.heap_setCell _ _ _ _ (Ne.symm hne)).trans ((Below.heap_setCell _ _ _ _ (Ne.symm hne)).trans ((Below.heap_setCell _ _ _ _ (Ne.symm hne)).trans HT2.out))⟩
        clear e1 e8 e9 e10 f8 f9 f10 H7
        obtain ⟨sgb, hsgb⟩ : ∃ sgb, decide (x7 ≥ 4) = sgb := ⟨_, rfl⟩
        have HSG := Aside0.mk hsgb
        clear hsgb
        go_wp2_with ((with_reducible refine (to_any g l s c j ⟨bar, pass, mark, true, x7, fb, cb⟩ 0 w0 _ (HI3.out _) (HB3.out _)).mono ?_); rintro e w4 ⟨rfl, hw, hb, hk⟩; have HW4 := Aside0.mk hw; have HB4 := Aside0.mk hb; have HK4 := Aside0.mk hk; clear hw hb hk; have t7 : w4.cell? ⟨B, 7, none⟩ = some (.int .i64 x7) := (blk_cell ((HK4.out.2 _ (lt_of_block (HT3.out _)) (Ne.symm hne) (by simp)).trans (HT3.out _)) 7).trans rfl)
        cases sgb with
        | true =>
          have hs4 : x7 ≥ 4 := of_decide_eq_true HSG.out
          obtain ⟨A0', c0', HG4, _, _⟩ := HW4.out
          have e1 : w4.cell? ⟨g, 1, none⟩ = some (.int .i64 s) := (blk_cell HG4 1).trans rfl
          clear HG4
          go_wp2_with ((with_reducible refine (seg_any x7 true _ HSG.out).mono ?_); rintro e w5 ⟨rfl, n5, rfl⟩)
          go_wp2_with ((with_reducible refine (to_any g l s c j (Wk.to ⟨bar, pass, mark, true, x7, fb, cb⟩ 0) s w0 _ (IsS71.drewN HW4.out _) (pw_below_drewN HB4.out _)).mono ?_); rintro e w6 ⟨rfl, hw, hb, hk⟩; have HW6 := Aside0.mk hw; have HB6 := Aside0.mk hb; have HK6 := Aside0.mk hk; clear hw hb hk)
          go_ret
          refine ⟨rfl, ?_, HB6.out, ?_⟩
          · exact HW6.out
          · exact (((keep_set' (keep_set' (keep_set' (keep_drewN' HK2.out)))).trans HK4.out (.inl rfl))).trans (show KeepBut w4 w6 g none from HK6.out) (.inl rfl)
        | false =>
          have hs4 : ¬ x7 ≥ 4 := of_decide_eq_false HSG.out
          go_wp2_with ((with_reducible refine (seg_any x7 false _ HSG.out).mono ?_); rintro e w5 ⟨rfl, n5, rfl⟩)
          go_ret
          refine ⟨rfl, ?_, pw_below_drewN HB4.out _, ?_⟩
          · exact IsS71.drewN HW4.out _
          · exact keep_drewN' ((keep_set' (keep_set' (keep_set' (keep_drewN' HK2.out)))).trans HK4.out (.inl rfl))
  · rw [if_pos (.inl hj)] at h
    subst h
    have hjb : (jump == 0) = false := beq_eq_false_iff_ne.mpr hj
    clear hj h3
    cases closed
    all_goals
        go_wp2
        go_quiet (fail)
        go_wp2
        go_ret
        refine ⟨rfl, ?_, ?_, ?_⟩
        · show IsS71 _ _ _ _ _ _ _ _ _ _ _ _ _ _
          simp only [Option.getD_some, Bool.false_or, Bool.true_or, gt_iff_lt]
          repeat (with_reducible first | exact HI1.out | apply IsS71.alloc | apply IsS71.drewN | apply IsS71.drew | apply IsS71.set_4 | apply IsS71.set_5 | apply IsS71.set_6 | apply IsS71.set_7 | apply IsS71.set_8 | apply IsS71.set_9 | apply IsS71.set_10)
        · repeat (with_reducible first | exact HB1.out | apply below_alloc | apply pw_below_drewN | apply below_drew1 | (refine below_setg ?_ hg))
        · repeat (with_reducible first | exact HK1.out | apply keep_alloc' | apply keep_drewN' | apply keep_drew' | apply keep_set')
end Go.Proofs.Ytendmmagjjhfnaa.M
