/- A range over the program's iterator of bars: one law for the statement. -/
import Derived.Test.YtendmmagjjhfnaaG6
namespace Go.Proofs.Ytendmmagjjhfnaa.M
open Go.RowKit Go.Proofs.YtendmmagjjhfnaaW.PrintWords Go.Proofs.YtendmmagjjhfnaaW.PrintLast Go.Proofs.YtendmmagjjhfnaaW.PrintMore
set_option linter.unusedVariables false
set_option linter.unusedSimpArgs false

theorem putObj_below {n l : Nat} {A : World} {o' : Obj} (h : n ≤ l) : Below n A (A.putObj l o') :=
  ⟨rfl, rfl, rfl, by simp [World.putObj], fun k hk => World.putObj_heap_other (by omega)⟩
theorem KpW.refl (n0 : Nat) (W : World) : KpW n0 W W := ⟨Nat.le_refl _, fun _ _ _ _ _ _ _ => rfl, Below.refl _ _⟩
theorem KpW.trans {n0 : Nat} {A B C : World} (h : KpW n0 A B) (k : KpW n0 B C) : KpW n0 A C :=
  ⟨Nat.le_trans h.1 k.1, fun i cs t fr hi h3 h31 => by
    have e := h.2.1 i cs t fr hi h3 h31
    exact (k.2.1 i cs t fr (e.trans hi) h3 h31).trans e, h.2.2.trans k.2.2⟩
theorem KpW.putObj {n0 l : Nat} {W : World} {o : Obj} (o' : Obj) (h : W.heap[l]? = some o) (ho : o.isCells = false) (hl : n0 ≤ l) : KpW n0 W (W.putObj l o') :=
  ⟨by simp [World.putObj], fun i cs t fr hi _ _ => World.putObj_heap_other (fun e => by subst e; rw [h] at hi; cases hi; cases ho), putObj_below hl⟩

/-- How a round may be left: on to the next one, or by a return when one more than two thousand came. -/
def roundWk (n0 : Nat) (I : List (Int × Int) → World → Prop) (Ix : World → Prop) (pre : List (Int × Int)) (b p : Int) (W : World) : Exit → Act → World → Prop
  | .normal, _, W' => KeepsOthers W W' ∧ KpW n0 W W' ∧ pre.length ≠ 2000 ∧ I (pre ++ [(b, p)]) W'
  | .ret, _, W' => KeepsOthers W W' ∧ pre.length = 2000 ∧ Ix W'
  | _, _, _ => False

set_option maxHeartbeats 4000000 in
theorem wpIn_range_wk {g : Operand} {ps : Array Tmp} {assign body : Code} {Q : Exit → Act → World → Prop} {a : Act} {w : World} (n k fuel Bl : Nat) (A0 : Option Addr) (c0 : Nat) (l : List S38) (s c j : Int) (res : List (Int × Int) × Bool) (V : World)
    (hg : a.eval g = .func (.func 46) #[] #[.pointer (some ⟨Bl, 0, none⟩)]) (hps : ps.size = 2)
    (hV : Below V.heap.size V w) (hC : Kd.C k38 V A0 l.length l) (hc0 : l.length ≤ c0) (hm : l.length ≤ 140737488351232) (hBl : w.heap[Bl]? = some (.cells #[.slice A0 l.length c0] 22 (0, 0)))
    (hf : turns_found.f l = some (s, c, j)) (hwk : wkL k l s c fuel ⟨0, 1, 0, false, 0, false, false⟩ [] = some res)
    (I : List (Int × Int) → World → Prop) (Ix : World → Prop)
    (hIa : ∀ pre A B, I pre A → Below A.heap.size A B → I pre B)
    (hIg : ∀ pre A B (g : Nat) (cs : Array Value) (fr : Nat × Nat), I pre A → A.heap[g]? = some (.cells cs 71 fr) → V.heap.size ≤ g → KeepBut A B g none → Below V.heap.size A B → I pre B)
    (hIp : ∀ pre A (L : Nat) (o o' : Obj), I pre A → A.heap[L]? = some o → o.isCells = false → V.heap.size ≤ L → I pre (A.putObj L o'))
    (hXp : ∀ A (L : Nat) (o o' : Obj), Ix A → A.heap[L]? = some o → o.isCells = false → V.heap.size ≤ L → Ix (A.putObj L o'))
    (h0 : I [] w) (a₁ : Int → Int → Act)
    (hassign : ∀ (L : Nat) (b p : Int) (W : World) (K : Act → World → Prop), K (a₁ b p) W →
      assign.wpIn (Fence.wide.inRound L) n Try.prog (Exit.then K (fun _ _ _ => False)) { tmps := (ps.zip #[.int .i64 b, .int .i64 p]).foldl (fun t (q, v) => t.setIfInBounds q v) a.tmps, defers := [] } W)
    (hbody : ∀ (L : Nat) (pre : List (Int × Int)) (b p : Int) (W : World), I pre W → body.wpIn (Fence.wide.inRound L) n Try.prog (roundWk V.heap.size I Ix pre b p W) (a₁ b p) W)
    (hdone : ∀ (D : Nat) (W : World), V.heap.size ≤ D → res.2 = false → I res.1 W → W.heap[D]? = some (.deferred (some [])) → Q .normal { a with defers := { target := .collected D, args := #[] } :: a.defers } W)
    (hstop : ∀ (D : Nat) (W : World), V.heap.size ≤ D → res.2 = true → Ix W → W.heap[D]? = some (.deferred (some [])) → Code.ret.wpIn Fence.wide n Try.prog Q { a with defers := { target := .collected D, args := #[] } :: a.defers } W) :
    (Code.rangeFunc g ps assign body).wpIn Fence.wide n Try.prog Q a w := by
  refine wpIn_rangeFunc ?_
  intro fn hfn
  rw [Fence.wide_round]
  have hVw : V.heap.size ≤ w.heap.size := hV.size
  obtain ⟨rec, hrec⟩ : ∃ rec : LoopState → Option Code → Loop, rec = fun st pe => { state := st, pending := pe, fn, tmps := a.tmps, params := ps, assign, body, defers := w.heap.size } := ⟨_, rfl⟩
  obtain ⟨W1, hW1⟩ : ∃ W1, (w.alloc (.deferred (some []))).alloc (.loop (rec .ready none)) = W1 := ⟨_, rfl⟩
  have hL1 : W1.heap[w.heap.size + 1]? = some (.loop (rec .ready none)) := by
    rw [← hW1]; have := World.alloc_heap_new (w.alloc (.deferred (some []))) (.loop (rec .ready none)); rwa [World.size_alloc] at this
  have hK1 : W1.heap[w.heap.size]? = some (.deferred (some [])) := by
    rw [← hW1]; exact (Below.heap_alloc _ _ _ (by simp)).trans (World.alloc_heap_new w _)
  have hb01 : Below w.heap.size w W1 := by
    rw [← hW1]; exact ((Below.refl _ w).alloc (Nat.le_refl _) _).alloc (by simp) _
  have hI1 : I [] W1 := hIa _ _ _ h0 hb01
  have hV1 : Below V.heap.size V W1 := hV.trans (hb01.mono hVw)
  have hBl1 : W1.heap[Bl]? = some (.cells #[.slice A0 l.length c0] 22 (0, 0)) := (hb01.block _ (lt_of_block hBl)).trans hBl
  refine ⟨w.heap.size + 1, [{ target := .collected w.heap.size, args := #[] }], W1, { target := .fn (.func 46) #[.pointer (some ⟨Bl, 0, none⟩)], args := #[.func (.yield (w.heap.size + 1)) #[] #[]] }, W1, 46,
    #[.func (.yield (w.heap.size + 1)) #[] #[], .pointer (some ⟨Bl, 0, none⟩)], W1, ?_, ?_, ?_, ?_, ?_, ?_⟩
  · rw [← hW1, hrec]; exact run_enterLoop_outer _ _ _ _ _
  · simp only [resolve, hg]
    simp [go_sem]
  · intro f' hf'; trivial
  · have eg := enters_of (P := Try.prog) Try.func46 (by kernel_rfl) rfl
    simp [invoke, go_sem, eg]
  · intro h; cases h
  · refine (callsIn_wide.2 (played_any n k fuel (w.heap.size + 1) Bl A0 c0 l s c j res
      (fun pre W => I pre W ∧ W.heap[w.heap.size + 1]? = some (.loop (rec .ready none)) ∧ W.heap[w.heap.size]? = some (.deferred (some [])))
      (fun W => Ix W ∧ W.heap[w.heap.size + 1]? = some (.loop (rec .done (some .ret))) ∧ W.heap[w.heap.size]? = some (.deferred (some [])))
      V W1 hV1 hC hc0 hm hBl1 hf ⟨?_, ?_⟩ ?_ ⟨hI1, hL1, hK1⟩ hwk)).mono ?_
    · rintro pre A B ⟨hi, hl, hk⟩ hb
      exact ⟨hIa _ _ _ hi hb, (hb.block _ (lt_of_block hl)).trans hl, (hb.block _ (lt_of_block hk)).trans hk⟩
    · rintro pre A B g' cs fr ⟨hi, hl, hk⟩ hcs hg' hkb hbl
      refine ⟨hIg _ _ _ _ _ _ hi hcs hg' hkb hbl, ?_, ?_⟩
      · exact (hkb.2 _ (lt_of_block hl) (fun e => by rw [e, hcs] at hl; cases hl) (by simp)).trans hl
      · exact (hkb.2 _ (lt_of_block hk) (fun e => by rw [e, hcs] at hk; cases hk) (by simp)).trans hk
    · -- one round
      rintro pre b p W ⟨hi, hl, hk⟩
      have hlt : w.heap.size + 1 < W.heap.size := (Array.getElem?_eq_some_iff.1 hl).1
      have hy := run_yield (P := Try.prog) (args := #[.int .i64 b, .int .i64 p]) hl (by rw [hrec]; exact hps.symm)
      rw [hrec] at hy
      refine ⟨fn, _, assign, body, hy, roundIn_of_wpIn hfn (hassign _ b p W _ ⟨_, run_beginRound hl (by rw [hrec]), ?_⟩)⟩
      have hl2 : (W.putObj (w.heap.size + 1) (.loop { rec .ready none with state := .busy })).heap[w.heap.size + 1]? = some (.loop { rec .ready none with state := .busy }) := World.putObj_heap_same hlt
      have hk2 : (W.putObj (w.heap.size + 1) (.loop { rec .ready none with state := .busy })).heap[w.heap.size]? = some (.deferred (some [])) := (World.putObj_heap_other (by omega)).trans hk
      have hw2 : KpW V.heap.size W (W.putObj (w.heap.size + 1) (.loop { rec .ready none with state := .busy })) := KpW.putObj _ hl rfl (by omega)
      refine wpIn_mono (hbody _ pre b p _ (hIp _ _ _ _ _ hi hl rfl (by omega))) ?_
      have fin : ∀ (jump : Option Code) (W3 : World), KeepsOthers (W.putObj (w.heap.size + 1) (.loop { rec .ready none with state := .busy })) W3 →
          (Instr.endRound (w.heap.size + 1) jump).run Try.prog W3 = .ok (.bool jump.isNone) (W3.putObj (w.heap.size + 1) (.loop (rec (if jump.isNone then .ready else .done) jump))) ∧
          W3.heap[w.heap.size + 1]? = some (.loop { rec .ready none with state := .busy }) ∧
          (W3.putObj (w.heap.size + 1) (.loop (rec (if jump.isNone then .ready else .done) jump))).heap[w.heap.size + 1]? = some (.loop (rec (if jump.isNone then .ready else .done) jump)) ∧
          (W3.putObj (w.heap.size + 1) (.loop (rec (if jump.isNone then .ready else .done) jump))).heap[w.heap.size]? = some (.deferred (some [])) := fun jump W3 hk3 => by
        have hl3 := hk3.same _ _ hl2 rfl
        have := run_endRound (P := Try.prog) jump hl3
        rw [hrec] at this ⊢
        exact ⟨this, by rw [hrec] at hl3; exact hl3, World.putObj_heap_same (Array.getElem?_eq_some_iff.1 hl3).1, (World.putObj_heap_other (by omega)).trans (hk3.same _ _ hk2 rfl)⟩
      rintro e a3 W3 hp
      cases e with
      | normal =>
        obtain ⟨hk3, hkp3, hn3, hi3⟩ := hp
        obtain ⟨hr, hl3, hl4, hk4⟩ := fin none W3 hk3
        exact ⟨_, _, hr, .inl ⟨hn3, rfl, ⟨hIp _ _ _ _ _ hi3 hl3 rfl (by omega), hl4, hk4⟩, (hw2.trans hkp3).trans (KpW.putObj _ hl3 rfl (by omega))⟩⟩
      | ret =>
        obtain ⟨hk3, hn3, hi3⟩ := hp
        obtain ⟨hr, hl3, hl4, hk4⟩ := fin (some .ret) W3 hk3
        exact ⟨_, _, hr, .inr ⟨hn3, rfl, hXp _ _ _ _ hi3 hl3 rfl (by omega), hl4, hk4⟩⟩
      | exit id => exact hp.elim
      | goto t => exact hp.elim
      | panic ch => exact hp.elim
      | outgrown => exact hp.elim
    · rintro e W2 ⟨rfl, (⟨hr, hi, hl, hk⟩ | ⟨hr, hi, hl, hk⟩)⟩
      · exact ⟨none, _, by have := run_endLoop (P := Try.prog) hl (by rw [hrec]; simp); rw [hrec] at this; exact this, hdone _ _ hVw hr (hIp _ _ _ _ _ hi hl rfl (by omega)) ((World.putObj_heap_other (by omega)).trans hk)⟩
      · exact ⟨some .ret, _, by have := run_endLoop (P := Try.prog) hl (by rw [hrec]; simp); rw [hrec] at this; exact this, hstop _ _ hVw hr (hXp _ _ _ _ hi hl rfl (by omega)) ((World.putObj_heap_other (by omega)).trans hk)⟩
end Go.Proofs.Ytendmmagjjhfnaa.M
