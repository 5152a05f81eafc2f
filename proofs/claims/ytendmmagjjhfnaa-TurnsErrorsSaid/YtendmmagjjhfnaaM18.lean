/- Printed by a program of this session (wip/tools), out of the translation: functions with the same answers as the Go code, and the contracts of the code. Lean checks it. -/
import Derived.Test.YtendmmagjjhfnaaM0
import Derived.Test.YtendmmagjjhfnaaM3
import Derived.Test.YtendmmagjjhfnaaM13
import Derived.Test.YtendmmagjjhfnaaM15
import Derived.Test.YtendmmagjjhfnaaM17
import Derived.Test.YtendmmagjjhfnaaG8a
namespace Go.Proofs.Ytendmmagjjhfnaa.M
open Go.RowKit Go.Proofs.YtendmmagjjhfnaaW.PrintWords Go.Proofs.YtendmmagjjhfnaaW.PrintLast Go.Proofs.YtendmmagjjhfnaaW.PrintMore
attribute [local go_sem] max2_int min2_int max_two min_two max_three min_three max_four min_four   -- for this text's walks alone
set_option linter.unusedVariables false
set_option linter.unusedSimpArgs false

/-! ### turns_walk: function 36 -/
section
variable {P : Program} {ops : Array Oper} {Q : Exit → Act → World → Prop} {md : Region.Mode} {n L : Nat}
/-- An operation that is no defer statement, walked as anywhere, is walked in a round. -/
theorem upon_in {o : Oper} {a : Act} {K : Act → World → Prop} {r : Result Next} (h : o.upon P a K Q r) : o.uponIn (Fence.wide.inRound L) n P a K Q r := by
  cases r with
  | ok x w' =>
    cases x with
    | value v => exact h
    | skip => exact h
    | defer d => exact h
    | enter f args => exact ⟨(fun h => by cases h), CallsIn.inRound L ((callsIn_wide.2 h).mono fun e w'' he => by cases e <;> exact he)⟩
    | row row args => exact ⟨(fun h => by cases h), fun c cs _ => let ⟨v, w', r, s⟩ := h c cs; ⟨v, w', r, stepsIn_wide.2 s⟩⟩
    | _ => exact h.elim
  | halt x w' =>
    cases x with
    | panic v => exact h
    | _ => exact h.elim
theorem wpAny_in (hnd : ∀ (i : Nat) (o : Oper) (c : Call), ops[i]? = some o → o.op ≠ .defer c) (hlo : ¬ LetsOut Q) : ∀ (fuel : Nat) (listed : Array Bool) (a : Act) (w : World), wpAny P md ops Q fuel listed a w → wpAnyIn (Fence.wide.inRound L) n P md ops Q fuel listed a w
  | 0, _, _, _, h => h
  | fuel + 1, listed, a, w, h => by
    refine ⟨h.1, fun i hi => ?_⟩
    have hh := h.2 i hi
    unfold wpOp at hh
    unfold wpOpIn
    cases ho : ops[i]? with
    | none => rw [ho] at hh; exact wpAny_in hnd hlo fuel _ _ _ hh
    | some o =>
      rw [ho] at hh
      by_cases hw : Region.wanted o (yielded ops a.tmps) = true
      · simp only [hw, if_true] at hh ⊢
        rcases hh with hh | hh
        · refine Oper.wpIn_mono (fun a' w' hk => wpAny_in hnd hlo fuel _ _ _ hk) ⟨fun _ _ => trivial, ?_⟩
          rw [show (Fence.wide.inRound L).round = some L from rfl, Oper.semAt_some L a.eval o (fun c => hnd i o c ho)]
          exact upon_in hh
        · exact absurd hh.2 hlo
      · simp only [hw] at hh ⊢
        exact ⟨fun _ _ => trivial, wpAny_in hnd hlo fuel _ _ _ hh⟩
def noDefer (ops : Array Oper) : Bool := ops.toList.all fun o => match o.op with | .defer _ => false | _ => true
theorem noDefer_spec {ops : Array Oper} (h : noDefer ops = true) : ∀ (i : Nat) (o : Oper) (c : Call), ops[i]? = some o → o.op ≠ .defer c := by
  intro i o c hi hd
  unfold noDefer at h
  rw [List.all_eq_true] at h
  have hm : o ∈ ops.toList := by
    rw [← Array.getElem?_toList] at hi
    exact List.mem_of_getElem? hi
  have := h o hm
  rw [hd] at this
  cases this
/-- A region that draws its order, in a round, by the print's steps. -/
theorem start_in {S : World → Prop} {ds : List Nat} {id m : Nat} {a : Act} {w : World} (l : Array Bool) (hnd : ∀ (i : Nat) (o : Oper) (c : Call), ops[i]? = some o → o.op ≠ .defer c) (hlo : ¬ LetsOut Q) (hm : P.follows .mixedOrders = true) (hn : ops.size = m) (hl : Array.replicate m false = l) (hS : S w.drew)
    (h : S w.drew → wpAnyLast P .any ops Q S ds m l a w.drew) : (Code.region id ops true).wpIn (Fence.wide.inRound L) n P Q a w := by
  subst hn
  subst hl
  exact wpIn_region_any hm (wpAny_in hnd hlo _ _ _ _ (wpAny_of_last _ _ _ _ (h hS)))
end

theorem played42 (A0 : Option Addr) (c0 n : Nat) (w : World) :
    Calls Try.prog 42 #[.slice A0 n c0] w fun e w' => e = .returned (.func (.func 46) #[] #[.pointer (some ⟨w.heap.size, 0, none⟩)]) ∧ w.alloc (.cells #[.slice A0 n c0] 22) = w' := by
  have hmf : ∀ (fn : Fn) (first cap : Array Value) (w : World), (Instr.makeFunc fn first cap).run Try.prog w = .ok (.func fn first cap) w := fun _ _ _ _ => rfl
  go_enter Try.func42, Try.ntmps42
  go_wp2
  go_ret
  exact ⟨rfl, rfl⟩

theorem three_boxes (w : World) : Boxed (((w.alloc (.cells #[.slice none 0 0] 31)).alloc (.cells #[.slice none 0 0] 31)).alloc (.cells #[.int .i64 0] 28)) w.heap.size 31 (.slice none 0 0) ∧
    Boxed (((w.alloc (.cells #[.slice none 0 0] 31)).alloc (.cells #[.slice none 0 0] 31)).alloc (.cells #[.int .i64 0] 28)) (w.heap.size + 1) 31 (.slice none 0 0) ∧
    Boxed (((w.alloc (.cells #[.slice none 0 0] 31)).alloc (.cells #[.slice none 0 0] 31)).alloc (.cells #[.int .i64 0] 28)) (w.heap.size + 1 + 1) 28 (.int .i64 0) ∧
    Below w.heap.size w (((w.alloc (.cells #[.slice none 0 0] 31)).alloc (.cells #[.slice none 0 0] 31)).alloc (.cells #[.int .i64 0] 28)) ∧ w.heap.size + 2 < (((w.alloc (.cells #[.slice none 0 0] 31)).alloc (.cells #[.slice none 0 0] 31)).alloc (.cells #[.int .i64 0] 28)).heap.size := by
  refine ⟨((Boxed.new w 31 _).alloc _).alloc _, ?_, ?_, below_alloc (below_alloc (below_alloc (Below.refl _ _) _) _) _, by simp⟩
  · have := (Boxed.new (w.alloc (.cells #[.slice none 0 0] 31)) 31 (.slice none 0 0)).alloc (.cells #[.int .i64 0] 28)
    rwa [World.size_alloc] at this
  · have := Boxed.new ((w.alloc (.cells #[.slice none 0 0] 31)).alloc (.cells #[.slice none 0 0] 31)) 28 (.int .i64 0)
    rwa [World.size_alloc, World.size_alloc] at this
theorem boxed_below {W W' : World} {B : Nat} {t : TypeId} {v : Value} (h : Boxed W B t v) (hb : Below W.heap.size W W') : Boxed W' B t v := (hb.block B h.lt).trans h

/-- The bars, and their passes. -/
def walkEnd (r : List (Int × Int) × Bool) : List Int × List Int × Int := if r.2 = true then ([], [], 101) else (r.1.map Prod.fst, r.1.map Prod.snd, 0)
def turns_walk.f (k : Nat) (l0 : List (S38)) : Option (List Int × List Int × Int) :=
  (turns_Check.f k l0).bind fun ce => if ce.2 = 0 then (wkL k l0 (fi (fun x => x.f3) 0 l0) (fi (fun x => x.f4) 0 l0) k ⟨0, 1, 0, false, 0, false, false⟩ []).bind fun r => some (walkEnd r) else some ([], [], ce.2)

attribute [local go_sem] Oper.semAt_some

set_option maxHeartbeats 16000000 in
set_option maxRecDepth 100000 in
theorem turns_walk.calls (k : Nat) (A0 : Option Addr) (c0 : Nat) (l0 : List (S38)) (r1 : List Int) (r2 : List Int) (r3 : Int) (w : World) (hr0 : Kd.C k38 w A0 l0.length l0) (hc0 : l0.length ≤ c0) (h : turns_walk.f k l0 = some (r1, r2, r3)) :
    Calls Try.prog 36 #[.slice A0 l0.length c0] w fun e w' => ∃ v0_ v1_ : Value, e = .returned (.tuple #[v0_, v1_, .int .i64 r3]) ∧ Kd.R (Kd.int .i64) 3 w' w.heap.size (fun k_ => some k_ ≠ (v1_ : Value).ownBlock) v0_ r1 ∧ Kd.R (Kd.int .i64) 3 w' w.heap.size (fun k_ => some k_ ≠ (v0_ : Value).ownBlock) v1_ r2 ∧ Below w.heap.size w w' := by
  unfold turns_walk.f at h
  obtain ⟨⟨ck, ce⟩, hce, h⟩ := Option.bind_eq_some_iff.mp h
  have HCE := Aside0.mk hce
  have HR0 := Aside0.mk hr0
  have HC0 := Aside0.mk hc0
  have HH := Aside0.mk h
  clear hr0 hc0 hce h
  refine callsIn_wide.1 (callsIn_of_wp_marks (n := 5) Try.func36 rfl trivial ?_ rfl)
  simp only [Try.ntmps36, List.size_toArray, List.length_cons, List.length_nil, Nat.reduceAdd, Nat.reduceSub, Array.replicate_succ, Array.replicate_zero, List.push_toArray, List.append_toArray, List.nil_append, List.cons_append]
  refine wpIn_wide.2 ?_
  have HW0 := Aside0.mk (three_boxes w)
  by_cases hz : ce = 0
  case neg =>
    have hh := HH.out
    dsimp only at hh
    rw [if_neg hz] at hh
    simp only [Option.some.injEq, Prod.mk.injEq] at hh
    obtain ⟨rfl, rfl, rfl⟩ := hh
    have hzb : (ce != 0) = true := bne_iff_ne.mpr hz
    clear hz HH
    go_wp2_with ((with_reducible refine (turns_Check.calls k A0 c0 l0 ck ce _ (Kd.C_below HR0.out (by repeat (with_reducible first | exact Below.refl _ _ | apply below_alloc))) HC0.out HCE.out).mono ?_); rintro e w1 ⟨rfl, hb1⟩; have HB1 := Aside0.mk hb1; have x0 := (boxed_below HW0.out.1 hb1).cell; have x1 := (boxed_below HW0.out.2.1 hb1).cell; have x2 := (boxed_below HW0.out.2.2.1 hb1).cell; have f0 := (boxed_below HW0.out.1 hb1).frozen; have f1 := (boxed_below HW0.out.2.1 hb1).frozen; have f2 := (boxed_below HW0.out.2.2.1 hb1).frozen; clear hb1)
    have b0 := ((boxed_below HW0.out.1 HB1.out).set (.slice none 0 0)).other (B' := w.heap.size + 1) (by omega) (.slice none 0 0) |>.other (B' := w.heap.size + 1 + 1) (by omega) (.int .i64 ce)
    have b1 := (((boxed_below HW0.out.2.1 HB1.out).other (B' := w.heap.size) (by omega) (.slice none 0 0)).set (.slice none 0 0)).other (B' := w.heap.size + 1 + 1) (by omega) (.int .i64 ce)
    have b2 := (((boxed_below HW0.out.2.2.1 HB1.out).other (B' := w.heap.size) (by omega) (.slice none 0 0)).other (B' := w.heap.size + 1) (by omega) (.slice none 0 0)).set (.int .i64 ce)
    have hbb := ((((HW0.out.2.2.2.1.trans (HB1.out.mono HW0.out.2.2.2.1.size)).setCell (p := ⟨w.heap.size, 0, none⟩) (Nat.le_refl _) (.slice none 0 0)).setCell (p := ⟨w.heap.size + 1, 0, none⟩) (by simp) (.slice none 0 0)).setCell (p := ⟨w.heap.size + 1 + 1, 0, none⟩) (by simp; omega) (.int .i64 ce))
    refine ⟨.tuple #[.slice none 0 0, .slice none 0 0, .int .i64 ce], ?_, _, _, rfl, Kd.R_nil _ _ _ _ _, Kd.R_nil _ _ _ _ _, hbb⟩
    have y0 := b0.cell
    have y1 := b1.cell
    have y2 := b2.cell
    simp [results, Try.results36, go_sem, y0, y1, y2]
  subst hz
  have hh := HH.out
  dsimp only at hh
  rw [if_pos rfl] at hh
  obtain ⟨res, hres, hh⟩ := Option.bind_eq_some_iff.mp hh
  have HRES := Aside0.mk hres
  have hwe := Option.some.inj hh
  have HWE := Aside0.mk hwe
  clear hh hwe hres HH
  have hlenm : l0.length ≤ 140737488351232 := by
    have h := HCE.out
    unfold turns_Check.f at h
    by_cases hm : l0.length ≤ 140737488351232
    · exact hm
    · rw [if_neg hm] at h; cases h
  have HM := Aside0.mk hlenm
  clear hlenm
  go_wp2_with (first | ((with_reducible refine (turns_Check.calls k A0 c0 l0 ck 0 _ (Kd.C_below HR0.out (by repeat (with_reducible first | exact Below.refl _ _ | apply below_alloc))) HC0.out HCE.out).mono ?_); rintro e w1 ⟨rfl, hb1⟩; have HB1 := Aside0.mk hb1; clear hb1) | ((with_reducible refine (played42 A0 c0 l0.length _).mono ?_); rintro e w2 ⟨rfl, rfl⟩))
  have hBox : BoxesOf w.heap.size w1 (.slice none 0 0) (.slice none 0 0) 0 := ⟨boxed_below HW0.out.1 HB1.out, boxed_below HW0.out.2.1 HB1.out, boxed_below HW0.out.2.2.1 HB1.out⟩
  have hVw : Below w.heap.size w w1 := HW0.out.2.2.2.1.trans (HB1.out.mono HW0.out.2.2.2.1.size)
  refine wpIn_wide.1 (wpIn_range_wk 5 k k w1.heap.size A0 c0 l0 _ _ _ res w rfl rfl (below_alloc hVw _) HR0.out HC0.out HM.out (heap_alloc_new w1 _) (found_f HM.out) HRES.out (IW w.heap.size w) (IxW w.heap.size w)
    (iw_a (Nat.le_refl _)) (fun pre A B g cs fr h hg _ hk hb => iw_g pre A B g cs fr h hg hk hb) iw_p ixw_p
    ⟨_, _, boxes_alloc hBox _, ⟨own_nil _ _ _ _, own_nil _ _ _ _, by simp [Value.ownBlock]⟩, by simp, below_alloc hVw _⟩
    (fun b p => { tmps := #[.slice A0 l0.length c0, undef, .pointer (some ⟨w.heap.size, 0, none⟩), .pointer (some ⟨w.heap.size + 1, 0, none⟩), .pointer (some ⟨w.heap.size + 1 + 1, 0, none⟩), .int .i64 ck, .int .i64 0, .int .i64 b, .int .i64 p, .tuple #[.int .i64 ck, .int .i64 0], .slice A0 l0.length c0, .tuple #[.int .i64 ck, .int .i64 0], .int .i64 ck, .int .i64 0, .int .i64 0, .bool false, undef, .slice A0 l0.length c0, .func (.func 46) #[] #[.pointer (some ⟨w1.heap.size, 0, none⟩)], .int .i64 b, .int .i64 p, undef, undef, undef, undef, undef, undef, undef, undef, undef, undef, undef, undef, undef], defers := [] }) ?assign ?body ?done ?stop)
  case assign =>
    intro L b p W K hK
    gi_wp2
    exact hK
  case body =>
    intro L pre b p W hI
    clear hBox hVw
    obtain ⟨n0, hn0⟩ : ∃ n0, w.heap.size = n0 := ⟨_, rfl⟩
    rw [hn0] at hI ⊢
    have HN := Aside0.mk hn0
    clear hn0 HW0 HB1
    obtain ⟨v1, v2, hB, ⟨h1, h2, hd⟩, hlen, hV⟩ := hI
    rw [nums_len, List.length_map] at h1 h2
    obtain ⟨A1, c1, rfl⟩ := own_form h1
    obtain ⟨A2, c2, rfl⟩ := own_form h2
    have y0 := hB.1.cell
    have y1 := hB.2.1.cell
    have y2 := hB.2.2.cell
    have g0 := hB.1.frozen
    have g1 := hB.2.1.frozen
    have g2 := hB.2.2.frozen
    have HBX := Aside0.mk hB
    have HO1 := Aside0.mk h1
    have HO2 := Aside0.mk h2
    have HD := Aside0.mk hd
    have HVW := Aside0.mk hV
    have HN0 : Aside0 (n0 ≤ W.heap.size) := ⟨Nat.le_trans (Nat.le_of_eq HN.out.symm) hV.size⟩
    clear hB h1 h2 hd hV
    by_cases hk : pre.length = 2000
    · have hkb : ((pre.length : Int) == 2000) = true := beq_iff_eq.mpr (by omega)
      have hkb2 : (pre.length == 2000) = true := beq_iff_eq.mpr hk
      have HKK := Aside0.mk hk
      clear hk
      gi_wp2
      refine ⟨((KeepsOthers.setCell _ _ _).trans (KeepsOthers.setCell _ _ _)).trans (KeepsOthers.setCell _ _ _), HKK.out, ⟨((HBX.out.1.set _).other (by omega) _).other (by omega) _, ((HBX.out.2.1.other (by omega) _).set _).other (by omega) _, ((HBX.out.2.2.other (by omega) _).other (by omega) _).set _⟩, ?_⟩
      exact (((HVW.out.setCell (p := ⟨n0, 0, none⟩) (Nat.le_refl _) _).setCell (p := ⟨n0 + 1, 0, none⟩) (by simp) _).setCell (p := ⟨n0 + 1 + 1, 0, none⟩) (by simp; omega) _)
    · have hkb : ((pre.length : Int) == 2000) = false := beq_eq_false_iff_ne.mpr (by omega)
      have hkb2 : (pre.length == 2000) = false := beq_eq_false_iff_ne.mpr hk
      have HKK := Aside0.mk hk
      have hlt2 : pre.length < 2000 := by omega
      clear hk
      obtain ⟨i0, hi0, hz0, hz1, hz2⟩ := info_parts info3
      gi_wp2
      refine start_in (m := 10) (S := fun w' => w'.cell? ⟨n0, 0, none⟩ = some (.slice A1 pre.length c1) ∧ w'.cell? ⟨n0 + 1, 0, none⟩ = some (.slice A2 pre.length c2)) (ds := [8, 9]) #[false, false, false, false, false, false, false, false, false, false] (noDefer_spec (by kernel_rfl)) (by rintro ⟨a, w, h⟩; exact h) (by kernel_rfl) rfl rfl ⟨HBX.out.1.cell, HBX.out.2.1.cell⟩ (fun hHeld => ?_)
      refine pure_ (i := 1) (N := some 25) (v := ?_) (a' := ?_) #[false, true, false, false, false, false, false, false, false, false] rfl rfl (by kernel_rfl) (fun _ _ _ h => h) (Or.inl ⟨by rfl, ?_⟩) ?_ ?_
      rotate_left
      · intro w'
        go_simp
        with_reducible rfl
      rotate_left
      · simp only [Act.put, List.setIfInBounds_toArray, List.set_cons_zero, List.set_cons_succ, i64_w, i32_w]
        rfl
      refine pure_ (i := 5) (N := some 29) (v := ?_) (a' := ?_) #[false, true, false, false, false, true, false, false, false, false] rfl rfl (by kernel_rfl) (fun _ _ _ h => h) (Or.inl ⟨by rfl, ?_⟩) ?_ ?_
      rotate_left
      · intro w'
        go_simp
        with_reducible rfl
      rotate_left
      · simp only [Act.put, List.setIfInBounds_toArray, List.set_cons_zero, List.set_cons_succ, i64_w, i32_w]
        rfl
      refine take_ (i := 0) (N := some 24) (v := ?_) (a' := ?_) #[true, true, false, false, false, true, false, false, false, false] rfl rfl (by kernel_rfl) (fun _ _ _ h => h) (Or.inl ⟨by rfl, ?_⟩) hHeld ?_ ?_
      rotate_left
      · rintro w' ⟨s0, s1⟩
        go_simp
        with_reducible rfl
      rotate_left
      · simp only [Act.put, List.setIfInBounds_toArray, List.set_cons_zero, List.set_cons_succ, i64_w, i32_w]
        rfl
      refine take_ (i := 4) (N := some 28) (v := ?_) (a' := ?_) #[true, true, false, false, true, true, false, false, false, false] rfl rfl (by kernel_rfl) (fun _ _ _ h => h) (Or.inl ⟨by rfl, ?_⟩) hHeld ?_ ?_
      rotate_left
      · rintro w' ⟨s0, s1⟩
        go_simp
        with_reducible rfl
      rotate_left
      · simp only [Act.put, List.setIfInBounds_toArray, List.set_cons_zero, List.set_cons_succ, i64_w, i32_w]
        rfl
      refine join_ (σ := Nat × Value × Nat) 3 #[true, true, true, true, true, true, true, false, false, false] (fun s => [(26, .slice (some ⟨s.1, 0, none⟩) 1 1), (27, s.2.1), (30, .slice (some ⟨s.2.2, 0, none⟩) 1 1)]) (Aft n0 W (.slice A1 pre.length c1) (.slice A2 pre.length c2) ((nums .i64 (pre.map Prod.fst)) ++ [.int .i64 b]) (nums .i64 (pre.map Prod.snd)) (pre.length + 1) pre.length p) ?_ ?_
      rotate_left
      · intro hCont
        refine two_ (i := 2) (j := 6) (Ni := some 26) (Nj := some 30) #[true, true, true, false, true, true, false, false, false, false] #[true, true, false, false, true, true, true, false, false, false] rfl rfl rfl rfl (by kernel_rfl) (by decide) (by decide) (fun K hK => ?_) (fun K hK => ?_)
        · skip
          refine value_ (w1 := ?_) (v := ?_) (by rfl) rfl ?_ ?_
          rotate_left 2
          · go_simp
            constructor
            · rfl
            · rfl
          refine hK.out _ _ ⟨(boxes_alloc (W := W.drew) HBX.out _).1.cell, (boxes_alloc (W := W.drew) HBX.out _).2.1.cell⟩ (fun hHeld => ?_)
          clear hK K
          refine norm_ (a' := ?_) ?_ ?_
          rotate_left
          · show Act.put _ (some 26) _ = _
            simp only [Act.put, List.setIfInBounds_toArray, List.set_cons_zero, List.set_cons_succ, i64_w, i32_w]
            rfl
          refine two_ (i := 3) (j := 6) (Ni := some 27) (Nj := some 30) #[true, true, true, true, true, true, false, false, false, false] #[true, true, true, false, true, true, true, false, false, false] rfl rfl rfl rfl (by kernel_rfl) (by decide) (by decide) (fun K hK => ?_) (fun K hK => ?_)
          · skip
            refine step_append_lies _ rfl (.tmp 24) (.tmp 26) 31 (by rfl) n0 3 i0 (.int .i64 0) 1 8 Try.underlying31 hi0 hz0 hz1 hz2 rfl (by omega) (.slice A1 pre.length c1) pre.length (nums .i64 (pre.map Prod.fst)) (by rfl) (own_alloc (W := W.drew) HO1.out _) ⟨W.heap.size, 0, none⟩ 1 1 [.int .i64 b] (by rfl) (by rfl) (World.news_of_block (heap_alloc_new W.drew _)) (by simp [Value.oneCell']) (by omega) (by unfold maxLen; omega) (by omega) (size_alloc1 HN0.out) _ rfl ?_
            intro gg cap X1 hown1 hgrow hat hlt
            have HG1 := Aside0.mk hgrow
            have HA1 := Aside0.mk hat
            have HO1' := Aside0.mk hown1
            have HLT1 := Aside0.mk hlt
            clear hgrow hat hown1 hlt
            refine hK.out _ _ ⟨(boxes_grown (boxes_alloc (W := W.drew) HBX.out _) (own_alloc (W := W.drew) HO1.out _) HG1.out).1.cell, (boxes_grown (boxes_alloc (W := W.drew) HBX.out _) (own_alloc (W := W.drew) HO1.out _) HG1.out).2.1.cell⟩ (fun hHeld => ?_)
            clear hK K
            refine norm_ (a' := ?_) ?_ ?_
            rotate_left
            · show Act.put _ (some 27) _ = _
              simp only [Act.put, List.setIfInBounds_toArray, List.set_cons_zero, List.set_cons_succ, i64_w, i32_w]
              rfl
            refine one_ (i := 6) (N := some 30) #[true, true, true, true, true, true, true, false, false, false] rfl rfl (by kernel_rfl) (by decide) (fun K hK => ?_)
            refine value_ (w1 := ?_) (v := ?_) (by rfl) rfl ?_ ?_
            rotate_left 2
            · go_simp
              constructor
              · rfl
              · rfl
            refine hK.out _ _ ⟨(boxes_alloc (boxes_grown (boxes_alloc (W := W.drew) HBX.out _) (own_alloc (W := W.drew) HO1.out _) HG1.out) _).1.cell, (boxes_alloc (boxes_grown (boxes_alloc (W := W.drew) HBX.out _) (own_alloc (W := W.drew) HO1.out _) HG1.out) _).2.1.cell⟩ (fun hHeld => ?_)
            clear hK K
            refine norm_ (a' := ?_) ?_ ?_
            rotate_left
            · show Act.put _ (some 30) _ = _
              simp only [Act.put, List.setIfInBounds_toArray, List.set_cons_zero, List.set_cons_succ, i64_w, i32_w]
              rfl
            exact norm_ (by simp only [putAll, Act.put, List.setIfInBounds_toArray, List.set_cons_zero, List.set_cons_succ]) (hCont (W.heap.size, .slice (some ⟨gg, 0, none⟩) (pre.length + 1) cap, X1.heap.size) _ (aft1 HBX.out HO1.out HO2.out HD.out HN0.out HO1'.out HG1.out HA1.out))
          · skip
            refine value_ (w1 := ?_) (v := ?_) (by rfl) rfl ?_ ?_
            rotate_left 2
            · go_simp
              constructor
              · rfl
              · rfl
            refine hK.out _ _ ⟨(boxes_alloc (boxes_alloc (W := W.drew) HBX.out _) _).1.cell, (boxes_alloc (boxes_alloc (W := W.drew) HBX.out _) _).2.1.cell⟩ (fun hHeld => ?_)
            clear hK K
            refine norm_ (a' := ?_) ?_ ?_
            rotate_left
            · show Act.put _ (some 30) _ = _
              simp only [Act.put, List.setIfInBounds_toArray, List.set_cons_zero, List.set_cons_succ, i64_w, i32_w]
              rfl
            refine one_ (i := 3) (N := some 27) #[true, true, true, true, true, true, true, false, false, false] rfl rfl (by kernel_rfl) (by decide) (fun K hK => ?_)
            refine step_append_lies _ rfl (.tmp 24) (.tmp 26) 31 (by rfl) n0 3 i0 (.int .i64 0) 1 8 Try.underlying31 hi0 hz0 hz1 hz2 rfl (by omega) (.slice A1 pre.length c1) pre.length (nums .i64 (pre.map Prod.fst)) (by rfl) (own_alloc (own_alloc (W := W.drew) HO1.out _) _) ⟨W.heap.size, 0, none⟩ 1 1 [.int .i64 b] (by rfl) (by rfl) (World.news_of_block ((Below.heap_alloc _ _ _ (by simp)).trans (heap_alloc_new W.drew _))) (by simp [Value.oneCell']) (by omega) (by unfold maxLen; omega) (by omega) (size_alloc2 HN0.out) _ rfl ?_
            intro gg cap X1 hown1 hgrow hat hlt
            have HG1 := Aside0.mk hgrow
            have HA1 := Aside0.mk hat
            have HO1' := Aside0.mk hown1
            have HLT1 := Aside0.mk hlt
            clear hgrow hat hown1 hlt
            refine hK.out _ _ ⟨(boxes_grown (boxes_alloc (boxes_alloc (W := W.drew) HBX.out _) _) (own_alloc (own_alloc (W := W.drew) HO1.out _) _) HG1.out).1.cell, (boxes_grown (boxes_alloc (boxes_alloc (W := W.drew) HBX.out _) _) (own_alloc (own_alloc (W := W.drew) HO1.out _) _) HG1.out).2.1.cell⟩ (fun hHeld => ?_)
            clear hK K
            refine norm_ (a' := ?_) ?_ ?_
            rotate_left
            · show Act.put _ (some 27) _ = _
              simp only [Act.put, List.setIfInBounds_toArray, List.set_cons_zero, List.set_cons_succ, i64_w, i32_w]
              rfl
            exact norm_ (by simp only [putAll, Act.put, List.setIfInBounds_toArray, List.set_cons_zero, List.set_cons_succ]) (hCont (W.heap.size, .slice (some ⟨gg, 0, none⟩) (pre.length + 1) cap, W.heap.size + 1) _ (aft2 HBX.out HO1.out HO2.out HD.out HN0.out HO1'.out HG1.out HA1.out))
        · skip
          refine value_ (w1 := ?_) (v := ?_) (by rfl) rfl ?_ ?_
          rotate_left 2
          · go_simp
            constructor
            · rfl
            · rfl
          refine hK.out _ _ ⟨(boxes_alloc (W := W.drew) HBX.out _).1.cell, (boxes_alloc (W := W.drew) HBX.out _).2.1.cell⟩ (fun hHeld => ?_)
          clear hK K
          refine norm_ (a' := ?_) ?_ ?_
          rotate_left
          · show Act.put _ (some 30) _ = _
            simp only [Act.put, List.setIfInBounds_toArray, List.set_cons_zero, List.set_cons_succ, i64_w, i32_w]
            rfl
          refine one_ (i := 2) (N := some 26) #[true, true, true, false, true, true, true, false, false, false] rfl rfl (by kernel_rfl) (by decide) (fun K hK => ?_)
          refine value_ (w1 := ?_) (v := ?_) (by rfl) rfl ?_ ?_
          rotate_left 2
          · go_simp
            constructor
            · rfl
            · rfl
          refine hK.out _ _ ⟨(boxes_alloc (boxes_alloc (W := W.drew) HBX.out _) _).1.cell, (boxes_alloc (boxes_alloc (W := W.drew) HBX.out _) _).2.1.cell⟩ (fun hHeld => ?_)
          clear hK K
          refine norm_ (a' := ?_) ?_ ?_
          rotate_left
          · show Act.put _ (some 26) _ = _
            simp only [Act.put, List.setIfInBounds_toArray, List.set_cons_zero, List.set_cons_succ, i64_w, i32_w]
            rfl
          refine one_ (i := 3) (N := some 27) #[true, true, true, true, true, true, true, false, false, false] rfl rfl (by kernel_rfl) (by decide) (fun K hK => ?_)
          refine step_append_lies _ rfl (.tmp 24) (.tmp 26) 31 (by rfl) n0 3 i0 (.int .i64 0) 1 8 Try.underlying31 hi0 hz0 hz1 hz2 rfl (by omega) (.slice A1 pre.length c1) pre.length (nums .i64 (pre.map Prod.fst)) (by rfl) (own_alloc (own_alloc (W := W.drew) HO1.out _) _) ⟨W.heap.size + 1, 0, none⟩ 1 1 [.int .i64 b] (by rfl) (by rfl) (World.news_of_block (blk_new2 W.drew _ _)) (by simp [Value.oneCell']) (by omega) (by unfold maxLen; omega) (by omega) (size_alloc2 HN0.out) _ rfl ?_
          intro gg cap X1 hown1 hgrow hat hlt
          have HG1 := Aside0.mk hgrow
          have HA1 := Aside0.mk hat
          have HO1' := Aside0.mk hown1
          have HLT1 := Aside0.mk hlt
          clear hgrow hat hown1 hlt
          refine hK.out _ _ ⟨(boxes_grown (boxes_alloc (boxes_alloc (W := W.drew) HBX.out _) _) (own_alloc (own_alloc (W := W.drew) HO1.out _) _) HG1.out).1.cell, (boxes_grown (boxes_alloc (boxes_alloc (W := W.drew) HBX.out _) _) (own_alloc (own_alloc (W := W.drew) HO1.out _) _) HG1.out).2.1.cell⟩ (fun hHeld => ?_)
          clear hK K
          refine norm_ (a' := ?_) ?_ ?_
          rotate_left
          · show Act.put _ (some 27) _ = _
            simp only [Act.put, List.setIfInBounds_toArray, List.set_cons_zero, List.set_cons_succ, i64_w, i32_w]
            rfl
          exact norm_ (by simp only [putAll, Act.put, List.setIfInBounds_toArray, List.set_cons_zero, List.set_cons_succ]) (hCont (W.heap.size + 1, .slice (some ⟨gg, 0, none⟩) (pre.length + 1) cap, W.heap.size) _ (aft3 HBX.out HO1.out HO2.out HD.out HN0.out HO1'.out HG1.out HA1.out))
      rintro ⟨q26, u1, q30⟩ w' hAft
      obtain ⟨gu, cu, hu⟩ := hAft.2.2.2.2.2.2.2.2.2.2
      dsimp only at hu
      subst hu
      have HAF := Aside0.mk hAft
      have hHeld : w'.cell? ⟨n0, 0, none⟩ = some (.slice A1 pre.length c1) ∧ w'.cell? ⟨n0 + 1, 0, none⟩ = some (.slice A2 pre.length c2) := ⟨hAft.1.1.cell, hAft.1.2.1.cell⟩
      clear hAft
      refine norm_ (a' := ?_) ?_ ?_
      rotate_left
      · simp only [putAll, Act.put, List.setIfInBounds_toArray, List.set_cons_zero, List.set_cons_succ]
        rfl
      refine one_ (i := 7) (N := some 31) #[true, true, true, true, true, true, true, true, false, false] rfl rfl (by kernel_rfl) (by decide) (fun K hK => ?_)
      refine step_append_lies _ rfl (.tmp 28) (.tmp 30) 31 (by rfl) n0 3 i0 (.int .i64 0) 1 8 Try.underlying31 hi0 hz0 hz1 hz2 rfl (by omega) (.slice A2 pre.length c2) pre.length (nums .i64 (pre.map Prod.snd)) (by rfl) HAF.out.2.2.1 ⟨q30, 0, none⟩ 1 1 [.int .i64 p] (by rfl) (by rfl) (World.news_of_block HAF.out.2.2.2.2.1) (by simp [Value.oneCell']) (by omega) (by unfold maxLen; omega) (by omega) (Nat.le_trans HN0.out HAF.out.2.2.2.2.2.2.2.2.2.1) _ rfl ?_
      intro gg2 cap2 X2 hown2 hgrow2 hat2 hlt2
      have HFIN := Aside0.mk (fin9 HAF.out hown2 hgrow2 hat2)
      clear hgrow2 hat2 hown2 hlt2
      have y0 := HFIN.out.1.1.cell
      have y1 := HFIN.out.1.2.1.cell
      have g0 := HFIN.out.1.1.frozen
      have g1 := HFIN.out.1.2.1.frozen
      refine hK.out _ _ ⟨y0, y1⟩ (fun hHeld => ?_)
      clear hK K
      refine norm_ (a' := ?_) ?_ ?_
      rotate_left
      · show Act.put _ (some 31) _ = _
        simp only [Act.put, List.setIfInBounds_toArray, List.set_cons_zero, List.set_cons_succ, i64_w, i32_w]
        rfl
      refine last_ (i := 8) (N := none) #[true, true, true, true, true, true, true, true, true, false] rfl rfl (by kernel_rfl) (by decide) (fun K hK => ?_)
      refine skip_ (w1 := ?_) (by rfl) rfl ?_ ?_
      rotate_left
      · go_simp
        rfl
      refine hK.out _ _ ?_
      clear hK K
      refine last_ (i := 9) (N := none) #[true, true, true, true, true, true, true, true, true, true] rfl rfl (by kernel_rfl) (by decide) (fun K hK => ?_)
      refine skip_ (w1 := ?_) (by rfl) rfl ?_ ?_
      rotate_left
      · go_simp
        rfl
      refine hK.out _ _ ?_
      clear hK K
      refine done_ (by kernel_rfl) ?_
      simp only [Exit.inBlock]
      have hfin := fin10 (b := b) (p := p) (V := w) (Nat.le_trans HN0.out HFIN.out.2.2.2.2.2.1) HFIN.out HVW.out hlt2
      exact ⟨hfin.1.1, hfin.1.2, HKK.out, hfin.2⟩
  case done =>
    rintro D W hD hr ⟨v1, v2, hB, hR, hlen, hV⟩ hK
    obtain ⟨A1, d1, rfl⟩ := own_form hR.1
    obtain ⟨A2, d2, rfl⟩ := own_form hR.2.1
    have y0 := hB.1.cell
    have y1 := hB.2.1.cell
    have y2 := hB.2.2.cell
    have g0 := hB.1.frozen
    have g1 := hB.2.1.frozen
    have g2 := hB.2.2.frozen
    have HBW := Aside0.mk hB
    have HRW := Aside0.mk hR
    have HVW := Aside0.mk hV
    have HK := Aside0.mk hK
    have HD := Aside0.mk hD
    have HRS := Aside0.mk hr
    clear hB hR hV hK hD hr hBox hVw
    go_wp2
    go_region
    go_wp2
    have HDN := Aside0.mk (done10 HBW.out HRW.out HVW.out)
    have HK3 := Aside0.mk (HDN.out.2.2.1.same D _ HK.out rfl)
    have hwe : walkEnd res = (res.1.map Prod.fst, res.1.map Prod.snd, 0) := by unfold walkEnd; rw [if_neg (by rw [HRS.out]; decide)]
    rw [hwe] at HWE
    have hw3 := HWE.out
    simp only [Prod.mk.injEq] at hw3
    obtain ⟨rfl, rfl, rfl⟩ := hw3
    refine ⟨by simp, .inl ⟨_, _, rfl, run_takeDeferred HK3.out, ?_⟩⟩
    have hB3 := boxes_putObj (.deferred none) HDN.out.1 HK3.out rfl
    have hR3 := rows_R (rows_putObj (.deferred none) HDN.out.2.1 HK3.out rfl)
    have z0 := hB3.1.cell
    have z1 := hB3.2.1.cell
    have z2 := hB3.2.2.cell
    refine ⟨.tuple #[.slice A1 _ d1, .slice A2 _ d2, .int .i64 0], ?_, _, _, rfl, hR3.1, hR3.2, HDN.out.2.2.2.trans (putObj_below HD.out)⟩
    simp [results, Try.results36, go_sem, z0, z1, z2]
  case stop =>
    rintro D W hD hr hX hK
    gi_wp2
    have hwe : walkEnd res = ([], [], 101) := by unfold walkEnd; rw [if_pos hr]
    have hw3 := HWE.out
    rw [hwe] at hw3
    simp only [Prod.mk.injEq] at hw3
    obtain ⟨rfl, rfl, rfl⟩ := hw3
    refine ⟨by simp, .inl ⟨_, _, rfl, run_takeDeferred hK, ?_⟩⟩
    have hB3 := boxes_putObj (.deferred none) hX.1 hK rfl
    have z0 := hB3.1.cell
    have z1 := hB3.2.1.cell
    have z2 := hB3.2.2.cell
    refine ⟨.tuple #[.slice none 0 0, .slice none 0 0, .int .i64 101], ?_, _, _, rfl, Kd.R_nil _ _ _ _ _, Kd.R_nil _ _ _ _ _, hX.2.trans (putObj_below hD)⟩
    simp [results, Try.results36, go_sem, z0, z1, z2]

theorem stO_mono (l : List S38) (bar : Nat) (pass jump : Int) (x : S38) (k : Nat) : LeO (stO k l bar pass jump x) (stO (k + 1) l bar pass jump x) := by
  unfold stO
  refine LeO.ite (LeO.refl _) (LeO.ite ?_ ?_)
  · exact slices_Contains_int_int.mono _ _ _
  · exact slices_Equal_int_int.mono _ _ _
theorem wkL_mono_k (l : List S38) (s c : Int) (k : Nat) : ∀ (n : Nat) (q : Wk) (acc : List (Int × Int)), LeO (wkL k l s c n q acc) (wkL (k + 1) l s c n q acc)
  | 0, _, _ => LeO.refl _
  | n + 1, q, acc => by
    rw [wkL, wkL]
    refine LeO.ite (LeO.ite (LeO.bind (stO_mono _ _ _ _ _ _) fun b => LeO.ite (LeO.ite (LeO.refl _) ?_) (wkL_mono_k l s c k n _ _)) (LeO.refl _)) (LeO.refl _)
    split
    · exact LeO.refl _
    · exact wkL_mono_k l s c k n _ _
theorem wkL_mono_n (l : List S38) (s c : Int) (k : Nat) : ∀ (n : Nat) (q : Wk) (acc : List (Int × Int)), LeO (wkL k l s c n q acc) (wkL k l s c (n + 1) q acc)
  | 0, _, _ => fun r h => by cases h
  | n + 1, q, acc => by
    rw [wkL, wkL.eq_def k l s c (n + 1 + 1)]
    refine LeO.ite (LeO.ite (LeO.bind (LeO.refl _) fun b => LeO.ite (LeO.ite (LeO.refl _) ?_) (wkL_mono_n l s c k n _ _)) (LeO.refl _)) (LeO.refl _)
    split
    · exact LeO.refl _
    · exact wkL_mono_n l s c k n _ _
theorem turns_walk.mono : ∀ a0 k, LeO (turns_walk.f k a0) (turns_walk.f (k + 1) a0) := by
  intro a0 k
  unfold turns_walk.f
  exact LeO.bind (turns_Check.mono _ _) fun _ => LeO.ite (LeO.bind (fun r h => wkL_mono_n _ _ _ _ _ _ _ r (wkL_mono_k _ _ _ _ _ _ _ r h)) fun _ => LeO.refl _) (LeO.refl _)

end Go.Proofs.Ytendmmagjjhfnaa.M
