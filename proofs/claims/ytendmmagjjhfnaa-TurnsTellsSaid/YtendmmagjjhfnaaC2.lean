/- Functions and contracts printed by a program of this session (wip/tools), and texts by hand: Print, Parse, and the plain answers (part 2). -/
import Derived.Test.YtendmmagjjhfnaaCW
import Derived.Test.YtendmmagjjhfnaaC1
namespace Go.Proofs.Ytendmmagjjhfnaa.M
open Go.RowKit Go.Proofs.YtendmmagjjhfnaaW.PrintWords Go.Proofs.YtendmmagjjhfnaaW.PrintLast Go.Proofs.YtendmmagjjhfnaaW.PrintMore
attribute [local go_sem] max2_int min2_int max_two min_two max_three min_three max_four min_four
set_option linter.unusedVariables false
set_option linter.unusedSimpArgs false
section
variable {P : Program} {ops : Array Oper} {Q : Exit → Act → World → Prop} {md : Region.Mode} {n L : Nat}
theorem upon_in {o : Oper} {a : Act} {K : Act → World → Prop} {r : Result Next} (h : o.upon P a K Q r) : o.uponIn (Fence.wide.inRound L) n P a K Q r := by
  cases r with
  | ok x w' =>
    cases x with
    | value v => exact h
    | skip => exact h
    | defer d => exact h
    | enter f args => exact ⟨(fun h => by cases h), CallsIn.inRound L ((callsIn_wide.2 h).mono fun e w'' he => by cases e <;> exact he)⟩
    | row row args => exact ⟨(fun h => by cases h), fun c cs _ => let ⟨v, w', r, s⟩ := h c cs; ⟨v, w', r, stepsIn_wide.2 s⟩⟩
    | _ => exact h.elim
  | halt x w' =>
    cases x with
    | panic v => exact h
    | _ => exact h.elim
theorem wpAny_in (hnd : ∀ (i : Nat) (o : Oper) (c : Call), ops[i]? = some o → o.op ≠ .defer c) (hlo : ¬ LetsOut Q) : ∀ (fuel : Nat) (listed : Array Bool) (a : Act) (w : World), wpAny P md ops Q fuel listed a w → wpAnyIn (Fence.wide.inRound L) n P md ops Q fuel listed a w
  | 0, _, _, _, h => h
  | fuel + 1, listed, a, w, h => by
    refine ⟨h.1, fun i hi => ?_⟩
    have hh := h.2 i hi
    unfold wpOp at hh
    unfold wpOpIn
    cases ho : ops[i]? with
    | none => rw [ho] at hh; exact wpAny_in hnd hlo fuel _ _ _ hh
    | some o =>
      rw [ho] at hh
      by_cases hw : Region.wanted o (yielded ops a.tmps) = true
      · simp only [hw, if_true] at hh ⊢
        rcases hh with hh | hh
        · refine Oper.wpIn_mono (fun a' w' hk => wpAny_in hnd hlo fuel _ _ _ hk) ⟨fun _ _ => trivial, ?_⟩
          rw [show (Fence.wide.inRound L).round = some L from rfl, Oper.semAt_some L a.eval o (fun c => hnd i o c ho)]
          exact upon_in hh
        · exact absurd hh.2 hlo
      · simp only [hw] at hh ⊢
        exact ⟨fun _ _ => trivial, wpAny_in hnd hlo fuel _ _ _ hh⟩
def noDefer (ops : Array Oper) : Bool := ops.toList.all fun o => match o.op with | .defer _ => false | _ => true
theorem noDefer_spec {ops : Array Oper} (h : noDefer ops = true) : ∀ (i : Nat) (o : Oper) (c : Call), ops[i]? = some o → o.op ≠ .defer c := by
  intro i o c hi hd
  unfold noDefer at h
  rw [List.all_eq_true] at h
  have hm : o ∈ ops.toList := by
    rw [← Array.getElem?_toList] at hi
    exact List.mem_of_getElem? hi
  have := h o hm
  rw [hd] at this
  cases this
theorem start_in {S : World → Prop} {ds : List Nat} {id m : Nat} {a : Act} {w : World} (l : Array Bool) (hnd : ∀ (i : Nat) (o : Oper) (c : Call), ops[i]? = some o → o.op ≠ .defer c) (hlo : ¬ LetsOut Q) (hm : P.follows .mixedOrders = true) (hn : ops.size = m) (hl : Array.replicate m false = l) (hS : S w.drew)
    (h : S w.drew → wpAnyLast P .any ops Q S ds m l a w.drew) : (Code.region id ops true).wpIn (Fence.wide.inRound L) n P Q a w := by
  subst hn
  subst hl
  exact wpIn_region_any hm (wpAny_in hnd hlo _ _ _ _ (wpAny_of_last _ _ _ _ (h hS)))
end
theorem played42 (A0 : Option Addr) (c0 n : Nat) (w : World) :
    Calls Try.prog 42 #[.slice A0 n c0] w fun e w' => e = .returned (.func (.func 46) #[] #[.pointer (some ⟨w.heap.size, 0, none⟩)]) ∧ w.alloc (.cells #[.slice A0 n c0] 22) = w' := by
  have hmf : ∀ (fn : Fn) (first cap : Array Value) (w : World), (Instr.makeFunc fn first cap).run Try.prog w = .ok (.func fn first cap) w := fun _ _ _ _ => rfl
  go_enter Try.func42, Try.ntmps42
  go_wp2
  go_ret
  exact ⟨rfl, rfl⟩
theorem three_boxes (w : World) : Boxed (((w.alloc (.cells #[.slice none 0 0] 31)).alloc (.cells #[.slice none 0 0] 31)).alloc (.cells #[.int .i64 0] 28)) w.heap.size 31 (.slice none 0 0) ∧
    Boxed (((w.alloc (.cells #[.slice none 0 0] 31)).alloc (.cells #[.slice none 0 0] 31)).alloc (.cells #[.int .i64 0] 28)) (w.heap.size + 1) 31 (.slice none 0 0) ∧
    Boxed (((w.alloc (.cells #[.slice none 0 0] 31)).alloc (.cells #[.slice none 0 0] 31)).alloc (.cells #[.int .i64 0] 28)) (w.heap.size + 1 + 1) 28 (.int .i64 0) ∧
    Below w.heap.size w (((w.alloc (.cells #[.slice none 0 0] 31)).alloc (.cells #[.slice none 0 0] 31)).alloc (.cells #[.int .i64 0] 28)) ∧ w.heap.size + 2 < (((w.alloc (.cells #[.slice none 0 0] 31)).alloc (.cells #[.slice none 0 0] 31)).alloc (.cells #[.int .i64 0] 28)).heap.size := by
  refine ⟨((Boxed.new w 31 _).alloc _).alloc _, ?_, ?_, below_alloc (below_alloc (below_alloc (Below.refl _ _) _) _) _, by simp⟩
  · have := (Boxed.new (w.alloc (.cells #[.slice none 0 0] 31)) 31 (.slice none 0 0)).alloc (.cells #[.int .i64 0] 28)
    rwa [World.size_alloc] at this
  · have := Boxed.new ((w.alloc (.cells #[.slice none 0 0] 31)).alloc (.cells #[.slice none 0 0] 31)) 28 (.int .i64 0)
    rwa [World.size_alloc, World.size_alloc] at this
theorem boxed_below {W W' : World} {B : Nat} {t : TypeId} {v : Value} (h : Boxed W B t v) (hb : Below W.heap.size W W') : Boxed W' B t v := (hb.block B h.lt).trans h
def walkEnd (r : List (Int × Int) × Bool) : List Int × List Int × Int := if r.2 = true then ([], [], 101) else (r.1.map Prod.fst, r.1.map Prod.snd, 0)
def turns_walk.f (k : Nat) (l0 : List (S38)) : Option (List Int × List Int × Int) :=
  (turns_Check.f k l0).bind fun ce => if ce.2 = 0 then (wkL k l0 (fi (fun x => x.f3) 0 l0) (fi (fun x => x.f4) 0 l0) k ⟨0, 1, 0, false, 0, false, false⟩ []).bind fun r => some (walkEnd r) else some ([], [], ce.2)
attribute [local go_sem] Oper.semAt_some
set_option maxHeartbeats 16000000 in
set_option maxRecDepth 100000 in
theorem turns_walk.calls (k : Nat) (A0 : Option Addr) (c0 : Nat) (l0 : List (S38)) (r1 : List Int) (r2 : List Int) (r3 : Int) (w : World) (hr0 : Kd.C k38 w A0 l0.length l0) (hc0 : l0.length ≤ c0) (h : turns_walk.f k l0 = some (r1, r2, r3)) :
    Calls Try.prog 36 #[.slice A0 l0.length c0] w fun e w' => ∃ v0_ v1_ : Value, e = .returned (.tuple #[v0_, v1_, .int .i64 r3]) ∧ Kd.R (Kd.int .i64) 3 w' w.heap.size (fun k_ => some k_ ≠ (v1_ : Value).ownBlock) v0_ r1 ∧ Kd.R (Kd.int .i64) 3 w' w.heap.size (fun k_ => some k_ ≠ (v0_ : Value).ownBlock) v1_ r2 ∧ Below w.heap.size w w' := by
  unfold turns_walk.f at h
  obtain ⟨⟨ck, ce⟩, hce, h⟩ := Option.bind_eq_some_iff.mp h
  have HCE := Aside0.mk hce
  have HR0 := Aside0.mk hr0
  have HC0 := Aside0.mk hc0
  have HH := Aside0.mk h
  clear hr0 hc0 hce h
  refine callsIn_wide.1 (callsIn_of_wp_marks (n := 5) Try.func36 rfl trivial ?_ rfl)
  simp only [Try.ntmps36, List.size_toArray, List.length_cons, List.length_nil, Nat.reduceAdd, Nat.reduceSub, Array.replicate_succ, Array.replicate_zero, List.push_toArray, List.append_toArray, List.nil_append, List.cons_append]
  refine wpIn_wide.2 ?_
  have HW0 := Aside0.mk (three_boxes w)
  by_cases hz : ce = 0
  case neg =>
    have hh := HH.out
    dsimp only at hh
    rw [if_neg hz] at hh
    simp only [Option.some.injEq, Prod.mk.injEq] at hh
    obtain ⟨rfl, rfl, rfl⟩ := hh
    have hzb : (ce != 0) = true := bne_iff_ne.mpr hz
    clear hz HH
    go_wp2_with ((with_reducible refine (turns_Check.calls k A0 c0 l0 ck ce _ (Kd.C_below HR0.out (by repeat (with_reducible first | exact Below.refl _ _ | apply below_alloc))) HC0.out HCE.out).mono ?_); rintro e w1 ⟨rfl, hb1⟩; have HB1 := Aside0.mk hb1; have x0 := (boxed_below HW0.out.1 hb1).cell; have x1 := (boxed_below HW0.out.2.1 hb1).cell; have x2 := (boxed_below HW0.out.2.2.1 hb1).cell; have f0 := (boxed_below HW0.out.1 hb1).frozen; have f1 := (boxed_below HW0.out.2.1 hb1).frozen; have f2 := (boxed_below HW0.out.2.2.1 hb1).frozen; clear hb1)
    have b0 := ((boxed_below HW0.out.1 HB1.out).set (.slice none 0 0)).other (B' := w.heap.size + 1) (by omega) (.slice none 0 0) |>.other (B' := w.heap.size + 1 + 1) (by omega) (.int .i64 ce)
    have b1 := (((boxed_below HW0.out.2.1 HB1.out).other (B' := w.heap.size) (by omega) (.slice none 0 0)).set (.slice none 0 0)).other (B' := w.heap.size + 1 + 1) (by omega) (.int .i64 ce)
    have b2 := (((boxed_below HW0.out.2.2.1 HB1.out).other (B' := w.heap.size) (by omega) (.slice none 0 0)).other (B' := w.heap.size + 1) (by omega) (.slice none 0 0)).set (.int .i64 ce)
    have hbb := ((((HW0.out.2.2.2.1.trans (HB1.out.mono HW0.out.2.2.2.1.size)).setCell (p := ⟨w.heap.size, 0, none⟩) (Nat.le_refl _) (.slice none 0 0)).setCell (p := ⟨w.heap.size + 1, 0, none⟩) (by simp) (.slice none 0 0)).setCell (p := ⟨w.heap.size + 1 + 1, 0, none⟩) (by simp; omega) (.int .i64 ce))
    refine ⟨.tuple #[.slice none 0 0, .slice none 0 0, .int .i64 ce], ?_, _, _, rfl, Kd.R_nil _ _ _ _ _, Kd.R_nil _ _ _ _ _, hbb⟩
    have y0 := b0.cell
    have y1 := b1.cell
    have y2 := b2.cell
    simp [results, Try.results36, go_sem, y0, y1, y2]
  subst hz
  have hh := HH.out
  dsimp only at hh
  rw [if_pos rfl] at hh
  obtain ⟨res, hres, hh⟩ := Option.bind_eq_some_iff.mp hh
  have HRES := Aside0.mk hres
  have hwe := Option.some.inj hh
  have HWE := Aside0.mk hwe
  clear hh hwe hres HH
  have hlenm : l0.length ≤ 140737488351232 := by
    have h := HCE.out
    unfold turns_Check.f at h
    by_cases hm : l0.length ≤ 140737488351232
    · exact hm
    · rw [if_neg hm] at h; cases h
  have HM := Aside0.mk hlenm
  clear hlenm
  go_wp2_with (first | ((with_reducible refine (turns_Check.calls k A0 c0 l0 ck 0 _ (Kd.C_below HR0.out (by repeat (with_reducible first | exact Below.refl _ _ | apply below_alloc))) HC0.out HCE.out).mono ?_); rintro e w1 ⟨rfl, hb1⟩; have HB1 := Aside0.mk hb1; clear hb1) | ((with_reducible refine (played42 A0 c0 l0.length _).mono ?_); rintro e w2 ⟨rfl, rfl⟩))
  have hBox : BoxesOf w.heap.size w1 (.slice none 0 0) (.slice none 0 0) 0 := ⟨boxed_below HW0.out.1 HB1.out, boxed_below HW0.out.2.1 HB1.out, boxed_below HW0.out.2.2.1 HB1.out⟩
  have hVw : Below w.heap.size w w1 := HW0.out.2.2.2.1.trans (HB1.out.mono HW0.out.2.2.2.1.size)
  refine wpIn_wide.1 (wpIn_range_wk 5 k k w1.heap.size A0 c0 l0 _ _ _ res w rfl rfl (below_alloc hVw _) HR0.out HC0.out HM.out (heap_alloc_new w1 _) (found_f HM.out) HRES.out (IW w.heap.size w) (IxW w.heap.size w)
    (iw_a (Nat.le_refl _)) (fun pre A B g cs fr h hg _ hk hb => iw_g pre A B g cs fr h hg hk hb) iw_p ixw_p
    ⟨_, _, boxes_alloc hBox _, ⟨own_nil _ _ _ _, own_nil _ _ _ _, by simp [Value.ownBlock]⟩, by simp, below_alloc hVw _⟩
    (fun b p => { tmps := #[.slice A0 l0.length c0, undef, .pointer (some ⟨w.heap.size, 0, none⟩), .pointer (some ⟨w.heap.size + 1, 0, none⟩), .pointer (some ⟨w.heap.size + 1 + 1, 0, none⟩), .int .i64 ck, .int .i64 0, .int .i64 b, .int .i64 p, .tuple #[.int .i64 ck, .int .i64 0], .slice A0 l0.length c0, .tuple #[.int .i64 ck, .int .i64 0], .int .i64 ck, .int .i64 0, .int .i64 0, .bool false, undef, .slice A0 l0.length c0, .func (.func 46) #[] #[.pointer (some ⟨w1.heap.size, 0, none⟩)], .int .i64 b, .int .i64 p, undef, undef, undef, undef, undef, undef, undef, undef, undef, undef, undef, undef, undef], defers := [] }) ?assign ?body ?done ?stop)
  case assign =>
    intro L b p W K hK
    gi_wp2
    exact hK
  case body =>
    intro L pre b p W hI
    clear hBox hVw
    obtain ⟨n0, hn0⟩ : ∃ n0, w.heap.size = n0 := ⟨_, rfl⟩
    rw [hn0] at hI ⊢
    have HN := Aside0.mk hn0
    clear hn0 HW0 HB1
    obtain ⟨v1, v2, hB, ⟨h1, h2, hd⟩, hlen, hV⟩ := hI
    rw [nums_len, List.length_map] at h1 h2
    obtain ⟨A1, c1, rfl⟩ := own_form h1
    obtain ⟨A2, c2, rfl⟩ := own_form h2
    have y0 := hB.1.cell
    have y1 := hB.2.1.cell
    have y2 := hB.2.2.cell
    have g0 := hB.1.frozen
    have g1 := hB.2.1.frozen
    have g2 := hB.2.2.frozen
    have HBX := Aside0.mk hB
    have HO1 := Aside0.mk h1
    have HO2 := Aside0.mk h2
    have HD := Aside0.mk hd
    have HVW := Aside0.mk hV
    have HN0 : Aside0 (n0 ≤ W.heap.size) := ⟨Nat.le_trans (Nat.le_of_eq HN.out.symm) hV.size⟩
    clear hB h1 h2 hd hV
    by_cases hk : pre.length = 2000
    · have hkb : ((pre.length : Int) == 2000) = true := beq_iff_eq.mpr (by omega)
      have hkb2 : (pre.length == 2000) = true := beq_iff_eq.mpr hk
      have HKK := Aside0.mk hk
      clear hk
      gi_wp2
      refine ⟨((KeepsOthers.setCell _ _ _).trans (KeepsOthers.setCell _ _ _)).trans (KeepsOthers.setCell _ _ _), HKK.out, ⟨((HBX.out.1.set _).other (by omega) _).other (by omega) _, ((HBX.out.2.1.other (by omega) _).set _).other (by omega) _, ((HBX.out.2.2.other (by omega) _).other (by omega) _).set _⟩, ?_⟩
      exact (((HVW.out.setCell (p := ⟨n0, 0, none⟩) (Nat.le_refl _) _).setCell (p := ⟨n0 + 1, 0, none⟩) (by simp) _).setCell (p := ⟨n0 + 1 + 1, 0, none⟩) (by simp; omega) _)
    have hkb : ((pre.length : Int) == 2000) = false := beq_eq_false_iff_ne.mpr (by omega)
    have hkb2 : (pre.length == 2000) = false := beq_eq_false_iff_ne.mpr hk
    have HKK := Aside0.mk hk
    have hlt2 : pre.length < 2000 := by omega
    clear hk
    obtain ⟨i0, hi0, hz0, hz1, hz2⟩ := info_parts info3
    gi_wp2
    refine start_in (m := 10) (S := fun w' => w'.cell? ⟨n0, 0, none⟩ = some (.slice A1 pre.length c1) ∧ w'.cell? ⟨n0 + 1, 0, none⟩ = some (.slice A2 pre.length c2)) (ds := [8, 9]) (bs 0 10) (noDefer_spec (by kernel_rfl)) (by rintro ⟨a, w, h⟩; exact h) (by kernel_rfl) rfl rfl ⟨HBX.out.1.cell, HBX.out.2.1.cell⟩ (fun hHeld => ?_)
    refine pure_ (i := 1) (N := some 25) (v := ?_) (a' := ?_) (bs 2 10) rfl rfl (by kernel_rfl) (fun _ _ _ h => h) (Or.inl ⟨by rfl, ?_⟩) ?_ ?_
    rotate_left
    · intro w'
      go_simp
      with_reducible rfl
    rotate_left
    · simp only [Act.put, List.setIfInBounds_toArray, List.set_cons_zero, List.set_cons_succ, i64_w, i32_w]
      rfl
    refine pure_ (i := 5) (N := some 29) (v := ?_) (a' := ?_) (bs 34 10) rfl rfl (by kernel_rfl) (fun _ _ _ h => h) (Or.inl ⟨by rfl, ?_⟩) ?_ ?_
    rotate_left
    · intro w'
      go_simp
      with_reducible rfl
    rotate_left
    · simp only [Act.put, List.setIfInBounds_toArray, List.set_cons_zero, List.set_cons_succ, i64_w, i32_w]
      rfl
    refine take_ (i := 0) (N := some 24) (v := ?_) (a' := ?_) (bs 35 10) rfl rfl (by kernel_rfl) (fun _ _ _ h => h) (Or.inl ⟨by rfl, ?_⟩) hHeld ?_ ?_
    rotate_left
    · rintro w' ⟨s0, s1⟩
      go_simp
      with_reducible rfl
    rotate_left
    · simp only [Act.put, List.setIfInBounds_toArray, List.set_cons_zero, List.set_cons_succ, i64_w, i32_w]
      rfl
    refine take_ (i := 4) (N := some 28) (v := ?_) (a' := ?_) (bs 51 10) rfl rfl (by kernel_rfl) (fun _ _ _ h => h) (Or.inl ⟨by rfl, ?_⟩) hHeld ?_ ?_
    rotate_left
    · rintro w' ⟨s0, s1⟩
      go_simp
      with_reducible rfl
    rotate_left
    · simp only [Act.put, List.setIfInBounds_toArray, List.set_cons_zero, List.set_cons_succ, i64_w, i32_w]
      rfl
    refine join_ (σ := Nat × Value × Nat) 3 (bs 127 10) (fun s => [(26, .slice (some ⟨s.1, 0, none⟩) 1 1), (27, s.2.1), (30, .slice (some ⟨s.2.2, 0, none⟩) 1 1)]) (Aft n0 W (.slice A1 pre.length c1) (.slice A2 pre.length c2) ((nums .i64 (pre.map Prod.fst)) ++ [.int .i64 b]) (nums .i64 (pre.map Prod.snd)) (pre.length + 1) pre.length p) ?_ ?_
    rotate_left
    · intro hCont
      refine two_ (i := 2) (j := 6) (Ni := some 26) (Nj := some 30) (bs 55 10) (bs 115 10) rfl rfl rfl rfl (by kernel_rfl) (by decide) (by decide) (fun K hK => ?_) (fun K hK => ?_)
      rotate_left
      · skip
        refine value_ (w1 := ?_) (v := ?_) (by rfl) rfl ?_ ?_
        rotate_left 2
        · go_simp
          constructor
          · rfl
          rfl
        refine hK.out _ _ ⟨(boxes_alloc (W := W.drew) HBX.out _).1.cell, (boxes_alloc (W := W.drew) HBX.out _).2.1.cell⟩ (fun hHeld => ?_)
        clear hK K
        refine normS (some 30) ?_
        refine one_ (i := 2) (N := some 26) (bs 119 10) rfl rfl (by kernel_rfl) (by decide) (fun K hK => ?_)
        refine value_ (w1 := ?_) (v := ?_) (by rfl) rfl ?_ ?_
        rotate_left 2
        · go_simp
          constructor
          · rfl
          rfl
        refine hK.out _ _ ⟨(boxes_alloc (boxes_alloc (W := W.drew) HBX.out _) _).1.cell, (boxes_alloc (boxes_alloc (W := W.drew) HBX.out _) _).2.1.cell⟩ (fun hHeld => ?_)
        clear hK K
        refine normS (some 26) ?_
        refine one_ (i := 3) (N := some 27) (bs 127 10) rfl rfl (by kernel_rfl) (by decide) (fun K hK => ?_)
        refine step_append_lies _ rfl (.tmp 24) (.tmp 26) 31 (by rfl) n0 3 i0 (.int .i64 0) 1 8 Try.underlying31 hi0 hz0 hz1 hz2 rfl (by omega) (.slice A1 pre.length c1) pre.length (nums .i64 (pre.map Prod.fst)) (by rfl) (own_alloc (own_alloc (W := W.drew) HO1.out _) _) ⟨W.heap.size + 1, 0, none⟩ 1 1 [.int .i64 b] (by rfl) (by rfl) (World.news_of_block (blk_new2 W.drew _ _)) (by simp [Value.oneCell']) (by omega) (by unfold maxLen; omega) (by omega) (size_alloc2 HN0.out) _ rfl ?_
        intro gg cap X1 hown1 hgrow hat hlt
        have HG1 := Aside0.mk hgrow
        have HA1 := Aside0.mk hat
        have HO1' := Aside0.mk hown1
        have HLT1 := Aside0.mk hlt
        clear hgrow hat hown1 hlt
        refine hK.out _ _ ⟨(boxes_grown (boxes_alloc (boxes_alloc (W := W.drew) HBX.out _) _) (own_alloc (own_alloc (W := W.drew) HO1.out _) _) HG1.out).1.cell, (boxes_grown (boxes_alloc (boxes_alloc (W := W.drew) HBX.out _) _) (own_alloc (own_alloc (W := W.drew) HO1.out _) _) HG1.out).2.1.cell⟩ (fun hHeld => ?_)
        clear hK K
        refine normS (some 27) ?_
        exact norm_ qql (hCont (W.heap.size + 1, .slice (some ⟨gg, 0, none⟩) (pre.length + 1) cap, W.heap.size) _ (aft3 HBX.out HO1.out HO2.out HD.out HN0.out HO1'.out HG1.out HA1.out))
      skip
      refine value_ (w1 := ?_) (v := ?_) (by rfl) rfl ?_ ?_
      rotate_left 2
      · go_simp
        constructor
        · rfl
        rfl
      refine hK.out _ _ ⟨(boxes_alloc (W := W.drew) HBX.out _).1.cell, (boxes_alloc (W := W.drew) HBX.out _).2.1.cell⟩ (fun hHeld => ?_)
      clear hK K
      refine normS (some 26) ?_
      refine two_ (i := 3) (j := 6) (Ni := some 27) (Nj := some 30) (bs 63 10) (bs 119 10) rfl rfl rfl rfl (by kernel_rfl) (by decide) (by decide) (fun K hK => ?_) (fun K hK => ?_)
      · skip
        refine step_append_lies _ rfl (.tmp 24) (.tmp 26) 31 (by rfl) n0 3 i0 (.int .i64 0) 1 8 Try.underlying31 hi0 hz0 hz1 hz2 rfl (by omega) (.slice A1 pre.length c1) pre.length (nums .i64 (pre.map Prod.fst)) (by rfl) (own_alloc (W := W.drew) HO1.out _) ⟨W.heap.size, 0, none⟩ 1 1 [.int .i64 b] (by rfl) (by rfl) (World.news_of_block (heap_alloc_new W.drew _)) (by simp [Value.oneCell']) (by omega) (by unfold maxLen; omega) (by omega) (size_alloc1 HN0.out) _ rfl ?_
        intro gg cap X1 hown1 hgrow hat hlt
        have HG1 := Aside0.mk hgrow
        have HA1 := Aside0.mk hat
        have HO1' := Aside0.mk hown1
        have HLT1 := Aside0.mk hlt
        clear hgrow hat hown1 hlt
        refine hK.out _ _ ⟨(boxes_grown (boxes_alloc (W := W.drew) HBX.out _) (own_alloc (W := W.drew) HO1.out _) HG1.out).1.cell, (boxes_grown (boxes_alloc (W := W.drew) HBX.out _) (own_alloc (W := W.drew) HO1.out _) HG1.out).2.1.cell⟩ (fun hHeld => ?_)
        clear hK K
        refine normS (some 27) ?_
        refine one_ (i := 6) (N := some 30) (bs 127 10) rfl rfl (by kernel_rfl) (by decide) (fun K hK => ?_)
        refine value_ (w1 := ?_) (v := ?_) (by rfl) rfl ?_ ?_
        rotate_left 2
        · go_simp
          constructor
          · rfl
          rfl
        refine hK.out _ _ ⟨(boxes_alloc (boxes_grown (boxes_alloc (W := W.drew) HBX.out _) (own_alloc (W := W.drew) HO1.out _) HG1.out) _).1.cell, (boxes_alloc (boxes_grown (boxes_alloc (W := W.drew) HBX.out _) (own_alloc (W := W.drew) HO1.out _) HG1.out) _).2.1.cell⟩ (fun hHeld => ?_)
        clear hK K
        refine normS (some 30) ?_
        exact norm_ qql (hCont (W.heap.size, .slice (some ⟨gg, 0, none⟩) (pre.length + 1) cap, X1.heap.size) _ (aft1 HBX.out HO1.out HO2.out HD.out HN0.out HO1'.out HG1.out HA1.out))
      skip
      refine value_ (w1 := ?_) (v := ?_) (by rfl) rfl ?_ ?_
      rotate_left 2
      · go_simp
        constructor
        · rfl
        rfl
      refine hK.out _ _ ⟨(boxes_alloc (boxes_alloc (W := W.drew) HBX.out _) _).1.cell, (boxes_alloc (boxes_alloc (W := W.drew) HBX.out _) _).2.1.cell⟩ (fun hHeld => ?_)
      clear hK K
      refine normS (some 30) ?_
      refine one_ (i := 3) (N := some 27) (bs 127 10) rfl rfl (by kernel_rfl) (by decide) (fun K hK => ?_)
      refine step_append_lies _ rfl (.tmp 24) (.tmp 26) 31 (by rfl) n0 3 i0 (.int .i64 0) 1 8 Try.underlying31 hi0 hz0 hz1 hz2 rfl (by omega) (.slice A1 pre.length c1) pre.length (nums .i64 (pre.map Prod.fst)) (by rfl) (own_alloc (own_alloc (W := W.drew) HO1.out _) _) ⟨W.heap.size, 0, none⟩ 1 1 [.int .i64 b] (by rfl) (by rfl) (World.news_of_block ((Below.heap_alloc _ _ _ (by simp)).trans (heap_alloc_new W.drew _))) (by simp [Value.oneCell']) (by omega) (by unfold maxLen; omega) (by omega) (size_alloc2 HN0.out) _ rfl ?_
      intro gg cap X1 hown1 hgrow hat hlt
      have HG1 := Aside0.mk hgrow
      have HA1 := Aside0.mk hat
      have HO1' := Aside0.mk hown1
      have HLT1 := Aside0.mk hlt
      clear hgrow hat hown1 hlt
      refine hK.out _ _ ⟨(boxes_grown (boxes_alloc (boxes_alloc (W := W.drew) HBX.out _) _) (own_alloc (own_alloc (W := W.drew) HO1.out _) _) HG1.out).1.cell, (boxes_grown (boxes_alloc (boxes_alloc (W := W.drew) HBX.out _) _) (own_alloc (own_alloc (W := W.drew) HO1.out _) _) HG1.out).2.1.cell⟩ (fun hHeld => ?_)
      clear hK K
      refine normS (some 27) ?_
      exact norm_ qql (hCont (W.heap.size, .slice (some ⟨gg, 0, none⟩) (pre.length + 1) cap, W.heap.size + 1) _ (aft2 HBX.out HO1.out HO2.out HD.out HN0.out HO1'.out HG1.out HA1.out))
    rintro ⟨q26, u1, q30⟩ w' hAft
    obtain ⟨gu, cu, hu⟩ := hAft.2.2.2.2.2.2.2.2.2.2
    dsimp only at hu
    subst hu
    have HAF := Aside0.mk hAft
    have hHeld : w'.cell? ⟨n0, 0, none⟩ = some (.slice A1 pre.length c1) ∧ w'.cell? ⟨n0 + 1, 0, none⟩ = some (.slice A2 pre.length c2) := ⟨hAft.1.1.cell, hAft.1.2.1.cell⟩
    clear hAft
    refine norm_ (a' := ?_) ?_ ?_
    rotate_left
    · simp only [putAll, Act.put, List.setIfInBounds_toArray, List.set_cons_zero, List.set_cons_succ]
      rfl
    refine one_ (i := 7) (N := some 31) (bs 255 10) rfl rfl (by kernel_rfl) (by decide) (fun K hK => ?_)
    refine step_append_lies _ rfl (.tmp 28) (.tmp 30) 31 (by rfl) n0 3 i0 (.int .i64 0) 1 8 Try.underlying31 hi0 hz0 hz1 hz2 rfl (by omega) (.slice A2 pre.length c2) pre.length (nums .i64 (pre.map Prod.snd)) (by rfl) HAF.out.2.2.1 ⟨q30, 0, none⟩ 1 1 [.int .i64 p] (by rfl) (by rfl) (World.news_of_block HAF.out.2.2.2.2.1) (by simp [Value.oneCell']) (by omega) (by unfold maxLen; omega) (by omega) (Nat.le_trans HN0.out HAF.out.2.2.2.2.2.2.2.2.2.1) _ rfl ?_
    intro gg2 cap2 X2 hown2 hgrow2 hat2 hlt2
    have HFIN := Aside0.mk (fin9 HAF.out hown2 hgrow2 hat2)
    clear hgrow2 hat2 hown2 hlt2
    have y0 := HFIN.out.1.1.cell
    have y1 := HFIN.out.1.2.1.cell
    have g0 := HFIN.out.1.1.frozen
    have g1 := HFIN.out.1.2.1.frozen
    refine hK.out _ _ ⟨y0, y1⟩ (fun hHeld => ?_)
    clear hK K
    refine normS (some 31) ?_
    refine last_ (i := 8) (N := none) (bs 511 10) rfl rfl (by kernel_rfl) (by decide) (fun K hK => ?_)
    refine skip_ (w1 := ?_) (by rfl) rfl ?_ ?_
    rotate_left
    · go_simp
      rfl
    refine hK.out _ _ ?_
    clear hK K
    refine last_ (i := 9) (N := none) (bs 1023 10) rfl rfl (by kernel_rfl) (by decide) (fun K hK => ?_)
    refine skip_ (w1 := ?_) (by rfl) rfl ?_ ?_
    rotate_left
    · go_simp
      rfl
    refine hK.out _ _ ?_
    clear hK K
    refine done_ (by kernel_rfl) ?_
    simp only [Exit.inBlock]
    have hfin := fin10 (b := b) (p := p) (V := w) (Nat.le_trans HN0.out HFIN.out.2.2.2.2.2.1) HFIN.out HVW.out hlt2
    exact ⟨hfin.1.1, hfin.1.2, HKK.out, hfin.2⟩
  case done =>
    rintro D W hD hr ⟨v1, v2, hB, hR, hlen, hV⟩ hK
    obtain ⟨A1, d1, rfl⟩ := own_form hR.1
    obtain ⟨A2, d2, rfl⟩ := own_form hR.2.1
    have y0 := hB.1.cell
    have y1 := hB.2.1.cell
    have y2 := hB.2.2.cell
    have g0 := hB.1.frozen
    have g1 := hB.2.1.frozen
    have g2 := hB.2.2.frozen
    have HBW := Aside0.mk hB
    have HRW := Aside0.mk hR
    have HVW := Aside0.mk hV
    have HK := Aside0.mk hK
    have HD := Aside0.mk hD
    have HRS := Aside0.mk hr
    clear hB hR hV hK hD hr hBox hVw
    go_wp2
    go_region
    go_wp2
    have HDN := Aside0.mk (done10 HBW.out HRW.out HVW.out)
    have HK3 := Aside0.mk (HDN.out.2.2.1.same D _ HK.out rfl)
    have hwe : walkEnd res = (res.1.map Prod.fst, res.1.map Prod.snd, 0) := by unfold walkEnd; rw [if_neg (by rw [HRS.out]; decide)]
    rw [hwe] at HWE
    have hw3 := HWE.out
    simp only [Prod.mk.injEq] at hw3
    obtain ⟨rfl, rfl, rfl⟩ := hw3
    refine ⟨by simp, .inl ⟨_, _, rfl, run_takeDeferred HK3.out, ?_⟩⟩
    have hB3 := boxes_putObj (.deferred none) HDN.out.1 HK3.out rfl
    have hR3 := rows_R (rows_putObj (.deferred none) HDN.out.2.1 HK3.out rfl)
    have z0 := hB3.1.cell
    have z1 := hB3.2.1.cell
    have z2 := hB3.2.2.cell
    refine ⟨.tuple #[.slice A1 _ d1, .slice A2 _ d2, .int .i64 0], ?_, _, _, rfl, hR3.1, hR3.2, HDN.out.2.2.2.trans (putObj_below HD.out)⟩
    simp [results, Try.results36, go_sem, z0, z1, z2]
  case stop =>
    rintro D W hD hr hX hK
    gi_wp2
    have hwe : walkEnd res = ([], [], 101) := by unfold walkEnd; rw [if_pos hr]
    have hw3 := HWE.out
    rw [hwe] at hw3
    simp only [Prod.mk.injEq] at hw3
    obtain ⟨rfl, rfl, rfl⟩ := hw3
    refine ⟨by simp, .inl ⟨_, _, rfl, run_takeDeferred hK, ?_⟩⟩
    have hB3 := boxes_putObj (.deferred none) hX.1 hK rfl
    have z0 := hB3.1.cell
    have z1 := hB3.2.1.cell
    have z2 := hB3.2.2.cell
    refine ⟨.tuple #[.slice none 0 0, .slice none 0 0, .int .i64 101], ?_, _, _, rfl, Kd.R_nil _ _ _ _ _, Kd.R_nil _ _ _ _ _, hX.2.trans (putObj_below hD)⟩
    simp [results, Try.results36, go_sem, z0, z1, z2]
theorem stO_mono (l : List S38) (bar : Nat) (pass jump : Int) (x : S38) (k : Nat) : LeO (stO k l bar pass jump x) (stO (k + 1) l bar pass jump x) := by
  unfold stO
  refine LeO.ite (LeO.refl _) (LeO.ite ?_ ?_)
  · exact slices_Contains_int_int.mono _ _ _
  · exact slices_Equal_int_int.mono _ _ _
theorem wkL_mono_k (l : List S38) (s c : Int) (k : Nat) : ∀ (n : Nat) (q : Wk) (acc : List (Int × Int)), LeO (wkL k l s c n q acc) (wkL (k + 1) l s c n q acc)
  | 0, _, _ => LeO.refl _
  | n + 1, q, acc => by
    rw [wkL, wkL]
    refine LeO.ite (LeO.ite (LeO.bind (stO_mono _ _ _ _ _ _) fun b => LeO.ite (LeO.ite (LeO.refl _) ?_) (wkL_mono_k l s c k n _ _)) (LeO.refl _)) (LeO.refl _)
    split
    · exact LeO.refl _
    · exact wkL_mono_k l s c k n _ _
theorem wkL_mono_n (l : List S38) (s c : Int) (k : Nat) : ∀ (n : Nat) (q : Wk) (acc : List (Int × Int)), LeO (wkL k l s c n q acc) (wkL k l s c (n + 1) q acc)
  | 0, _, _ => fun r h => by cases h
  | n + 1, q, acc => by
    rw [wkL, wkL.eq_def k l s c (n + 1 + 1)]
    refine LeO.ite (LeO.ite (LeO.bind (LeO.refl _) fun b => LeO.ite (LeO.ite (LeO.refl _) ?_) (wkL_mono_n l s c k n _ _)) (LeO.refl _)) (LeO.refl _)
    split
    · exact LeO.refl _
    · exact wkL_mono_n l s c k n _ _
theorem turns_walk.mono : ∀ a0 k, LeO (turns_walk.f k a0) (turns_walk.f (k + 1) a0) := by
  intro a0 k
  unfold turns_walk.f
  exact LeO.bind (turns_Check.mono _ _) fun _ => LeO.ite (LeO.bind (fun r h => wkL_mono_n _ _ _ _ _ _ _ r (wkL_mono_k _ _ _ _ _ _ _ r h)) fun _ => LeO.refl _) (LeO.refl _)
end Go.Proofs.Ytendmmagjjhfnaa.M
namespace Go.Proofs.Ytendmmagjjhfnaa.M
open Go.RowKit Go.Proofs.YtendmmagjjhfnaaW.PrintWords Go.Proofs.YtendmmagjjhfnaaW.PrintLast Go.Proofs.YtendmmagjjhfnaaW.PrintMore
attribute [local go_sem] max2_int min2_int max_two min_two max_three min_three max_four min_four
set_option linter.unusedVariables false
set_option linter.unusedSimpArgs false
def turns_Unfold.f (k : Nat) (l0 : List (S38)) : Option (List Int × Int) := (turns_walk.f k l0).bind fun bt101 => (some (bt101.1, bt101.2.2))
theorem turns_Unfold.mono : ∀ a0 k, LeO (turns_Unfold.f k a0) (turns_Unfold.f (k + 1) a0) := by
  intro a0 k
  unfold turns_Unfold.f
  repeat' first
      | (with_reducible exact turns_walk.mono _ _)
      | (with_reducible exact LeO.refl _)
      | (with_reducible exact LeO.none _)
      | (with_reducible refine LeO.ite ?_ ?_)
      | (with_reducible refine LeO.bind ?_ (fun _ => ?_))
      | exact turns_walk.mono _ _
      | exact LeO.none _
      | refine LeO.ite ?_ ?_
      | refine LeO.bind ?_ (fun _ => ?_)
set_option maxHeartbeats 8000000 in
set_option maxRecDepth 100000 in
theorem turns_Unfold.calls (k : Nat) (A0 : Option Addr) (c0 : Nat) (l0 : List (S38)) (r1 : List Int) (r2 : Int) (w : World) (hr0 : Kd.C k38 w A0 l0.length l0) (hc0 : l0.length ≤ c0) (h : turns_Unfold.f k l0 = some (r1, r2)) :
    Calls Try.prog 15 #[.slice A0 l0.length c0] w fun e w' => ∃ v0_ : Value, e = .returned (.tuple #[v0_, .int .i64 r2]) ∧ Kd.R (Kd.int .i64) 3 w' w.heap.size (fun _ => True) v0_ r1 ∧ Below w.heap.size w w' := by
  have HR0 := Aside0.mk hr0
  have HC0 := Aside0.mk hc0
  clear hr0 hc0
  have HB := Aside0.mk (Below.refl w.heap.size w)
  have H := h
  unfold turns_Unfold.f at H
  clear h
  replace H := Option.bind_eq_some_iff.mp H
  obtain ⟨⟨t101, t102, t103⟩, A20, H⟩ := H
  try dsimp -simprocs only at H
  have A2 := Aside0.mk A20
  clear A20
  simp only [Option.some.injEq, Prod.mk.injEq] at H
  obtain ⟨rfl, rfl⟩ := H
  go_enter Try.func15, Try.ntmps15
  go_wp2_with (first | ((with_reducible refine gate_callee (f := 36) rfl ?_); refine goesL_ (some 9) rfl rfl Try.func36 (by kernel_rfl) rfl #[.slice A0 l0.length c0] rfl qq1 ?_; (with_reducible refine (turns_walk.calls k _ _ l0 t101 t102 t103 _ ?side1 ?side2 A2.out).mono ?_); (case side1 => repeat (first | exact HR0.out | (with_reducible refine Kd.C_alloc ?_ _) | (with_reducible refine Kd.C_drewN ?_ _) | (with_reducible refine Kd.C_drew ?_))); (case side2 => exact HC0.out); rintro e w3 ⟨v104, v106, rfl, ho0, ho1, hb⟩; refine ⟨_, rfl, ?_⟩; have HO105 := Aside0.mk (Kd.R_lower ho0 (below_size (qB HB.out))); have HO107 := Aside0.mk (Kd.R_lower ho1 (below_size (qB HB.out))); replace HB := Aside0.mk (below_step (qB HB.out) hb); (try clear hb); (try clear hb2); (try clear hk); (try clear hi); (try clear ho0); (try clear ho1)))
  go_ret2
  exact ⟨_, qq2, qqW, qB HB.out⟩
def turns_Passes.f (k : Nat) (l0 : List (S38)) : Option (List Int × Int) := (turns_walk.f k l0).bind fun bt101 => (some (bt101.2.1, bt101.2.2))
theorem turns_Passes.mono : ∀ a0 k, LeO (turns_Passes.f k a0) (turns_Passes.f (k + 1) a0) := by
  intro a0 k
  unfold turns_Passes.f
  repeat' first
      | (with_reducible exact turns_walk.mono _ _)
      | (with_reducible exact LeO.refl _)
      | (with_reducible exact LeO.none _)
      | (with_reducible refine LeO.ite ?_ ?_)
      | (with_reducible refine LeO.bind ?_ (fun _ => ?_))
      | exact turns_walk.mono _ _
      | exact LeO.none _
      | refine LeO.ite ?_ ?_
      | refine LeO.bind ?_ (fun _ => ?_)
set_option maxHeartbeats 8000000 in
set_option maxRecDepth 100000 in
theorem turns_Passes.calls (k : Nat) (A0 : Option Addr) (c0 : Nat) (l0 : List (S38)) (r1 : List Int) (r2 : Int) (w : World) (hr0 : Kd.C k38 w A0 l0.length l0) (hc0 : l0.length ≤ c0) (h : turns_Passes.f k l0 = some (r1, r2)) :
    Calls Try.prog 17 #[.slice A0 l0.length c0] w fun e w' => ∃ v0_ : Value, e = .returned (.tuple #[v0_, .int .i64 r2]) ∧ Kd.R (Kd.int .i64) 3 w' w.heap.size (fun _ => True) v0_ r1 ∧ Below w.heap.size w w' := by
  have HR0 := Aside0.mk hr0
  have HC0 := Aside0.mk hc0
  clear hr0 hc0
  have HB := Aside0.mk (Below.refl w.heap.size w)
  have H := h
  unfold turns_Passes.f at H
  clear h
  replace H := Option.bind_eq_some_iff.mp H
  obtain ⟨⟨t101, t102, t103⟩, A20, H⟩ := H
  try dsimp -simprocs only at H
  have A2 := Aside0.mk A20
  clear A20
  simp only [Option.some.injEq, Prod.mk.injEq] at H
  obtain ⟨rfl, rfl⟩ := H
  go_enter Try.func17, Try.ntmps17
  go_wp2_with (first | ((with_reducible refine gate_callee (f := 36) rfl ?_); refine goesL_ (some 9) rfl rfl Try.func36 (by kernel_rfl) rfl #[.slice A0 l0.length c0] rfl qq1 ?_; (with_reducible refine (turns_walk.calls k _ _ l0 t101 t102 t103 _ ?side1 ?side2 A2.out).mono ?_); (case side1 => repeat (first | exact HR0.out | (with_reducible refine Kd.C_alloc ?_ _) | (with_reducible refine Kd.C_drewN ?_ _) | (with_reducible refine Kd.C_drew ?_))); (case side2 => exact HC0.out); rintro e w3 ⟨v104, v106, rfl, ho0, ho1, hb⟩; refine ⟨_, rfl, ?_⟩; have HO105 := Aside0.mk (Kd.R_lower ho0 (below_size (qB HB.out))); have HO107 := Aside0.mk (Kd.R_lower ho1 (below_size (qB HB.out))); replace HB := Aside0.mk (below_step (qB HB.out) hb); (try clear hb); (try clear hb2); (try clear hk); (try clear hi); (try clear ho0); (try clear ho1)))
  go_ret2
  exact ⟨_, qq2, qqV, qB HB.out⟩
def partitalaw10_ints.l0 : Nat → List Int → List Int → Int → Option (Bool)
  | 0, _, _, _ => none
  | k + 1, x0, x1, x5 => if x5 < (x0.length : Int) then (if 0 ≤ x5 then (if x5 < (x1.length : Int) then (if (rd x0 x5) = (rd x1 x5) then (partitalaw10_ints.l0 k x0 x1 (wrap64 (x5 + 1))) else (some false)) else (none)) else (none)) else (some true)
def partitalaw10_ints.f (k : Nat) (l0 : List Int) (l1 : List Int) : Option (Bool) := if (l0.length : Int) = (l1.length : Int) then (partitalaw10_ints.l0 k l0 l1 0) else (some false)
theorem partitalaw10_ints.mono_l : ∀ k, (∀ y0 y1 y2, LeO (partitalaw10_ints.l0 k y0 y1 y2) (partitalaw10_ints.l0 (k + 1) y0 y1 y2))
  | 0 => fun _ _ _ r h => by simp [partitalaw10_ints.l0] at h
  | k + 1 => by
    have ih0 := partitalaw10_ints.mono_l k
    · intro y0 y1 y2
      unfold partitalaw10_ints.l0
      repeat' first
      | (with_reducible exact ih0 _ _ _)
      | (with_reducible exact LeO.refl _)
      | (with_reducible exact LeO.none _)
      | (with_reducible refine LeO.ite ?_ ?_)
      | (with_reducible refine LeO.bind ?_ (fun _ => ?_))
      | exact ih0 _ _ _
      | exact LeO.none _
      | refine LeO.ite ?_ ?_
      | refine LeO.bind ?_ (fun _ => ?_)
theorem partitalaw10_ints.mono : ∀ a0 a1 k, LeO (partitalaw10_ints.f k a0 a1) (partitalaw10_ints.f (k + 1) a0 a1) := by
  intro a0 a1 k
  have ih0 := partitalaw10_ints.mono_l k
  unfold partitalaw10_ints.f
  repeat' first
      | (with_reducible exact ih0 _ _ _)
      | (with_reducible exact LeO.refl _)
      | (with_reducible exact LeO.none _)
      | (with_reducible refine LeO.ite ?_ ?_)
      | (with_reducible refine LeO.bind ?_ (fun _ => ?_))
      | exact ih0 _ _ _
      | exact LeO.none _
      | refine LeO.ite ?_ ?_
      | refine LeO.bind ?_ (fun _ => ?_)
set_option maxHeartbeats 8000000 in
set_option maxRecDepth 100000 in
theorem partitalaw10_ints.calls (k : Nat) (A0 : Option Addr) (c0 : Nat) (l0 : List Int) (A1 : Option Addr) (c1 : Nat) (l1 : List Int) (r : Bool) (w : World) (hr0 : Kd.C (Kd.int .i64) w A0 l0.length l0) (hc0 : l0.length ≤ c0) (hr1 : Kd.C (Kd.int .i64) w A1 l1.length l1) (hc1 : l1.length ≤ c1) (h : partitalaw10_ints.f k l0 l1 = some r) :
    Calls Try.prog 19 #[.slice A0 l0.length c0, .slice A1 l1.length c1] w fun e w' => e = .returned (.bool r) ∧ Drawn0 w w' := by
  have HR0 := Aside0.mk hr0
  have HC0 := Aside0.mk hc0
  clear hr0 hc0
  have HR1 := Aside0.mk hr1
  have HC1 := Aside0.mk hc1
  clear hr1 hc1
  have H := h
  unfold partitalaw10_ints.f at H
  clear h
  by_cases c3 : (l0.length : Int) = (l1.length : Int)
  rotate_left
  · rw [if_neg c3] at H
    have c3b0 : ((l0.length : Int) == (l1.length : Int)) = false := beq_eq_false_iff_ne.mpr c3
    have c3b1 : ((l0.length : Int) != (l1.length : Int)) = true := bne_iff_ne.mpr c3
    have c3b2 : (l0.length == l1.length) = false := by first | simpa using c3 | (simp at c3 ⊢; omega)
    obtain rfl := Option.some.inj H
    go_enter Try.func19, Try.ntmps19
    go_wp2
    repeat (go_quiet (fail); try go_wp2)
    go_ret
    exact ⟨qq3, qq6⟩
  rw [if_pos c3] at H
  have c3b0 : ((l0.length : Int) == (l1.length : Int)) = true := beq_iff_eq.mpr c3
  have c3b1 : ((l0.length : Int) != (l1.length : Int)) = false := bne_eq_false_iff_eq.mpr c3
  have c3b2 : (l0.length == l1.length) = true := by first | simpa using c3 | (simp at c3 ⊢; omega)
  clear c3
  have H' := Aside0.mk H
  clear H
  go_enter Try.func19, Try.ntmps19
  go_wp2
  repeat (go_quiet (fail); try go_wp2)
  go_loopg [5] k (fun kq v5 w' => ∃ (x5_1 : Int), v5 = .int .i64 x5_1 ∧ Aside0 (partitalaw10_ints.l0 kq l0 l1 x5_1 = some r) ∧ Aside0 (kq ≤ k) ∧ Drawn0 w w')
  case atStart => exact ⟨(0), qq3, H', ⟨Nat.le_refl _⟩, qq6⟩
  case round =>
    clear H'
    try clear c1
    try clear p2
    try clear c3
    try clear c3b0
    try clear c3b1
    try clear c3b2
    obtain ⟨x5_1, rfl, HA, HK1, ⟨m1, rfl⟩⟩ := hrel
    cases gk with
    | zero => exact absurd HA.out (by simp [partitalaw10_ints.l0])
    | succ k1 =>
      have H := HA.out
      clear HA
      simp only [partitalaw10_ints.l0] at H
      by_cases c4 : x5_1 < (l0.length : Int)
      rotate_left
      · rw [if_neg c4] at H
        have c4b0 : decide (x5_1 < (l0.length : Int)) = false := decide_eq_false c4
        clear c4
        obtain rfl := Option.some.inj H
        go_wp2
        repeat (go_quiet (fail); try go_wp2)
        go_ret
        exact ⟨qq3, qq6⟩
      rw [if_pos c4] at H
      have c4b0 : decide (x5_1 < (l0.length : Int)) = true := decide_eq_true c4
      clear c4
      by_cases c5 : 0 ≤ x5_1
      rotate_left
      · rw [if_neg c5] at H
        exact absurd H (by simp)
      rw [if_pos c5] at H
      have c5b0 : decide (0 ≤ x5_1) = true := decide_eq_true c5
      clear c5
      by_cases c6 : x5_1 < (l1.length : Int)
      rotate_left
      · rw [if_neg c6] at H
        exact absurd H (by simp)
      rw [if_pos c6] at H
      have c6b0 : decide (x5_1 < (l1.length : Int)) = true := decide_eq_true c6
      clear c6
      by_cases c7 : (rd l0 x5_1) = (rd l1 x5_1)
      rotate_left
      · rw [if_neg c7] at H
        have c7b0 : ((rd l0 x5_1) == (rd l1 x5_1)) = false := beq_eq_false_iff_ne.mpr c7
        have c7b1 : ((rd l0 x5_1) != (rd l1 x5_1)) = true := bne_iff_ne.mpr c7
        obtain rfl := Option.some.inj H
        have p101 : 0 ≤ (x5_1 : Int) := of_decide_eq_true qq0
        have q101 : x5_1 < (l0.length : Int) := of_decide_eq_true qq0
        obtain ⟨ad101, e101, hx101_0⟩ := Kd.at_int HR0.out x5_1 p101 q101
        cases e101
        replace p101 := eq_true p101
        replace q101 := eq_true q101
        have p102 : 0 ≤ (x5_1 : Int) := of_decide_eq_true qq0
        have q102 : x5_1 < (l1.length : Int) := of_decide_eq_true qq0
        obtain ⟨ad102, e102, hx102_0⟩ := Kd.at_int HR1.out x5_1 p102 q102
        cases e102
        replace p102 := eq_true p102
        replace q102 := eq_true q102
        go_wp2
        repeat (go_quiet (fail); try go_wp2)
        go_ret
        exact ⟨qq3, qq6⟩
      rw [if_pos c7] at H
      have c7b0 : ((rd l0 x5_1) == (rd l1 x5_1)) = true := beq_iff_eq.mpr c7
      have c7b1 : ((rd l0 x5_1) != (rd l1 x5_1)) = false := bne_eq_false_iff_eq.mpr c7
      clear c7
      have H' := Aside0.mk H
      clear H
      have p101 : 0 ≤ (x5_1 : Int) := of_decide_eq_true qq0
      have q101 : x5_1 < (l0.length : Int) := of_decide_eq_true qq0
      obtain ⟨ad101, e101, hx101_0⟩ := Kd.at_int HR0.out x5_1 p101 q101
      cases e101
      replace p101 := eq_true p101
      replace q101 := eq_true q101
      have p102 : 0 ≤ (x5_1 : Int) := of_decide_eq_true qq0
      have q102 : x5_1 < (l1.length : Int) := of_decide_eq_true qq0
      obtain ⟨ad102, e102, hx102_0⟩ := Kd.at_int HR1.out x5_1 p102 q102
      cases e102
      replace p102 := eq_true p102
      replace q102 := eq_true q102
      go_wp2
      repeat (go_quiet (fail); try go_wp2)
      go_roundg k1
      case measure => have := HK1.out; omega
      case rel => exact ⟨(wrap64 (x5_1 + 1)), qq3, H', ⟨qqP⟩, qq6⟩
def partitalaw10_examples.f (k : Nat)  : Option (Bool) := (turns_Unfold.f k (([(⟨false, 0, ([] : List Int), false, false, false, false, 0⟩ : S38), (⟨false, 2, ([] : List Int), false, false, false, false, 0⟩ : S38), (⟨false, 0, ([] : List Int), false, false, false, false, 0⟩ : S38)] : List (S38)))).bind fun bt104 => ((turns_Unfold.f k (([(⟨false, 0, ([] : List Int), false, false, false, false, 0⟩ : S38), (⟨false, 2, (([1] : List Int)), false, false, false, false, 0⟩ : S38), (⟨false, 0, (([2] : List Int)), false, false, false, false, 0⟩ : S38)] : List (S38)))).bind fun bt117 => ((turns_Unfold.f k (([(⟨false, 0, ([] : List Int), false, false, false, true, 0⟩ : S38), (⟨false, 0, ([] : List Int), false, false, false, false, 2⟩ : S38)] : List (S38)))).bind fun bt124 => ((turns_Passes.f k (([(⟨false, 0, ([] : List Int), false, false, false, false, 0⟩ : S38), (⟨false, 2, ([] : List Int), false, false, false, false, 0⟩ : S38), (⟨false, 0, ([] : List Int), false, false, false, false, 0⟩ : S38)] : List (S38)))).bind fun bt131 => ((turns_Check.f k (([(⟨false, 0, ([] : List Int), false, false, false, false, 0⟩ : S38), (⟨false, 1, ([] : List Int), false, false, false, false, 0⟩ : S38)] : List (S38)))).bind fun bt138 => ((turns_Check.f k (([(⟨false, 0, ([] : List Int), false, false, false, false, 0⟩ : S38), (⟨false, 0, ([] : List Int), false, false, false, false, 4⟩ : S38)] : List (S38)))).bind fun bt143 => (if bt104.2 = 0 then ((partitalaw10_ints.f k bt104.1 (([0, 1, 0, 1, 2] : List Int))).bind fun t148 => (if t148 = true then (if bt117.2 = 0 then ((partitalaw10_ints.f k bt117.1 (([0, 1, 0, 2] : List Int))).bind fun t152 => (if t152 = true then (if bt124.2 = 0 then ((partitalaw10_ints.f k bt124.1 (([0, 1, 0] : List Int))).bind fun t156 => (if t156 = true then (if bt131.2 = 0 then ((partitalaw10_ints.f k bt131.1 (([1, 1, 2, 2, 1] : List Int))).bind fun t160 => (if t160 = true then (if bt138.1 = 1 then (if bt138.2 = 100 then (if bt143.1 = 1 then (some (bt143.2 == 100)) else (none)) else (none)) else (none)) else (none))) else (none)) else (none))) else (none)) else (none))) else (none)) else (none))) else (none)))))))
theorem partitalaw10_examples.mono : ∀ k, LeO (partitalaw10_examples.f k ) (partitalaw10_examples.f (k + 1) ) := by
  intro  k
  unfold partitalaw10_examples.f
  repeat' first
      | (with_reducible exact partitalaw10_ints.mono _ _ _)
      | (with_reducible exact turns_Check.mono _ _)
      | (with_reducible exact turns_Passes.mono _ _)
      | (with_reducible exact turns_Unfold.mono _ _)
      | (with_reducible exact LeO.refl _)
      | (with_reducible exact LeO.none _)
      | (with_reducible refine LeO.ite ?_ ?_)
      | (with_reducible refine LeO.bind ?_ (fun _ => ?_))
      | exact partitalaw10_ints.mono _ _ _
      | exact turns_Check.mono _ _
      | exact turns_Passes.mono _ _
      | exact turns_Unfold.mono _ _
      | exact LeO.none _
      | refine LeO.ite ?_ ?_
      | refine LeO.bind ?_ (fun _ => ?_)
set_option maxHeartbeats 8000000 in
set_option maxRecDepth 100000 in
theorem partitalaw10_examples.calls (k : Nat)  (r : Bool) (w : World) (h : partitalaw10_examples.f k  = some r) :
    Calls Try.prog 11 #[] w fun e w' => e = .returned (.bool r) ∧ Below w.heap.size w w' := by
  have hu38 := Try.underlying38
  have HB := Aside0.mk (Below.refl w.heap.size w)
  have H := h
  unfold partitalaw10_examples.f at H
  clear h
  obtain ⟨y101, hy101⟩ : ∃ y_ : List (S38), y_ = (([(⟨false, 0, ([] : List Int), false, false, false, false, 0⟩ : S38), (⟨false, 2, ([] : List Int), false, false, false, false, 0⟩ : S38), (⟨false, 0, ([] : List Int), false, false, false, false, 0⟩ : S38)] : List (S38))) := ⟨_, rfl⟩
  replace H : ((turns_Unfold.f k y101).bind fun bt104 => ((turns_Unfold.f k (([(⟨false, 0, ([] : List Int), false, false, false, false, 0⟩ : S38), (⟨false, 2, (([1] : List Int)), false, false, false, false, 0⟩ : S38), (⟨false, 0, (([2] : List Int)), false, false, false, false, 0⟩ : S38)] : List (S38)))).bind fun bt117 => ((turns_Unfold.f k (([(⟨false, 0, ([] : List Int), false, false, false, true, 0⟩ : S38), (⟨false, 0, ([] : List Int), false, false, false, false, 2⟩ : S38)] : List (S38)))).bind fun bt124 => ((turns_Passes.f k (([(⟨false, 0, ([] : List Int), false, false, false, false, 0⟩ : S38), (⟨false, 2, ([] : List Int), false, false, false, false, 0⟩ : S38), (⟨false, 0, ([] : List Int), false, false, false, false, 0⟩ : S38)] : List (S38)))).bind fun bt131 => ((turns_Check.f k (([(⟨false, 0, ([] : List Int), false, false, false, false, 0⟩ : S38), (⟨false, 1, ([] : List Int), false, false, false, false, 0⟩ : S38)] : List (S38)))).bind fun bt138 => ((turns_Check.f k (([(⟨false, 0, ([] : List Int), false, false, false, false, 0⟩ : S38), (⟨false, 0, ([] : List Int), false, false, false, false, 4⟩ : S38)] : List (S38)))).bind fun bt143 => (if bt104.2 = 0 then ((partitalaw10_ints.f k bt104.1 (([0, 1, 0, 1, 2] : List Int))).bind fun t148 => (if t148 = true then (if bt117.2 = 0 then ((partitalaw10_ints.f k bt117.1 (([0, 1, 0, 2] : List Int))).bind fun t152 => (if t152 = true then (if bt124.2 = 0 then ((partitalaw10_ints.f k bt124.1 (([0, 1, 0] : List Int))).bind fun t156 => (if t156 = true then (if bt131.2 = 0 then ((partitalaw10_ints.f k bt131.1 (([1, 1, 2, 2, 1] : List Int))).bind fun t160 => (if t160 = true then (if bt138.1 = 1 then (if bt138.2 = 100 then (if bt143.1 = 1 then (some (bt143.2 == 100)) else (none)) else (none)) else (none)) else (none))) else (none)) else (none))) else (none)) else (none))) else (none)) else (none))) else (none)))))))) = some r := by first | (rw [hy101]; with_reducible exact H) | (have H2_ := (Option.bind_some _ _).symm.trans H; rw [hy101]; with_reducible exact H2_) | (have H2_ := (Option.bind_some _ _).symm.trans H; with_reducible exact H2_) | with_reducible exact H | (rw [hy101]; exact H) | exact H
  have Ny101 := Aside0.mk hy101
  clear hy101
  replace H := Option.bind_eq_some_iff.mp H
  obtain ⟨⟨t104, t105⟩, A10, H⟩ := H
  try dsimp -simprocs only at H
  have A1 := Aside0.mk A10
  clear A10
  obtain ⟨y108, hy108⟩ : ∃ y_ : List Int, y_ = (([1] : List Int)) := ⟨_, rfl⟩
  replace H : ((turns_Unfold.f k (([(⟨false, 0, ([] : List Int), false, false, false, false, 0⟩ : S38), (⟨false, 2, y108, false, false, false, false, 0⟩ : S38), (⟨false, 0, (([2] : List Int)), false, false, false, false, 0⟩ : S38)] : List (S38)))).bind fun bt117 => ((turns_Unfold.f k (([(⟨false, 0, ([] : List Int), false, false, false, true, 0⟩ : S38), (⟨false, 0, ([] : List Int), false, false, false, false, 2⟩ : S38)] : List (S38)))).bind fun bt124 => ((turns_Passes.f k (([(⟨false, 0, ([] : List Int), false, false, false, false, 0⟩ : S38), (⟨false, 2, ([] : List Int), false, false, false, false, 0⟩ : S38), (⟨false, 0, ([] : List Int), false, false, false, false, 0⟩ : S38)] : List (S38)))).bind fun bt131 => ((turns_Check.f k (([(⟨false, 0, ([] : List Int), false, false, false, false, 0⟩ : S38), (⟨false, 1, ([] : List Int), false, false, false, false, 0⟩ : S38)] : List (S38)))).bind fun bt138 => ((turns_Check.f k (([(⟨false, 0, ([] : List Int), false, false, false, false, 0⟩ : S38), (⟨false, 0, ([] : List Int), false, false, false, false, 4⟩ : S38)] : List (S38)))).bind fun bt143 => (if t105 = 0 then ((partitalaw10_ints.f k t104 (([0, 1, 0, 1, 2] : List Int))).bind fun t148 => (if t148 = true then (if bt117.2 = 0 then ((partitalaw10_ints.f k bt117.1 (([0, 1, 0, 2] : List Int))).bind fun t152 => (if t152 = true then (if bt124.2 = 0 then ((partitalaw10_ints.f k bt124.1 (([0, 1, 0] : List Int))).bind fun t156 => (if t156 = true then (if bt131.2 = 0 then ((partitalaw10_ints.f k bt131.1 (([1, 1, 2, 2, 1] : List Int))).bind fun t160 => (if t160 = true then (if bt138.1 = 1 then (if bt138.2 = 100 then (if bt143.1 = 1 then (some (bt143.2 == 100)) else (none)) else (none)) else (none)) else (none))) else (none)) else (none))) else (none)) else (none))) else (none)) else (none))) else (none))))))) = some r := by first | (rw [hy108]; with_reducible exact H) | (have H2_ := (Option.bind_some _ _).symm.trans H; rw [hy108]; with_reducible exact H2_) | (have H2_ := (Option.bind_some _ _).symm.trans H; with_reducible exact H2_) | with_reducible exact H | (rw [hy108]; exact H) | exact H
  have Ny108 := Aside0.mk hy108
  clear hy108
  obtain ⟨y111, hy111⟩ : ∃ y_ : List Int, y_ = (([2] : List Int)) := ⟨_, rfl⟩
  replace H : ((turns_Unfold.f k (([(⟨false, 0, ([] : List Int), false, false, false, false, 0⟩ : S38), (⟨false, 2, y108, false, false, false, false, 0⟩ : S38), (⟨false, 0, y111, false, false, false, false, 0⟩ : S38)] : List (S38)))).bind fun bt117 => ((turns_Unfold.f k (([(⟨false, 0, ([] : List Int), false, false, false, true, 0⟩ : S38), (⟨false, 0, ([] : List Int), false, false, false, false, 2⟩ : S38)] : List (S38)))).bind fun bt124 => ((turns_Passes.f k (([(⟨false, 0, ([] : List Int), false, false, false, false, 0⟩ : S38), (⟨false, 2, ([] : List Int), false, false, false, false, 0⟩ : S38), (⟨false, 0, ([] : List Int), false, false, false, false, 0⟩ : S38)] : List (S38)))).bind fun bt131 => ((turns_Check.f k (([(⟨false, 0, ([] : List Int), false, false, false, false, 0⟩ : S38), (⟨false, 1, ([] : List Int), false, false, false, false, 0⟩ : S38)] : List (S38)))).bind fun bt138 => ((turns_Check.f k (([(⟨false, 0, ([] : List Int), false, false, false, false, 0⟩ : S38), (⟨false, 0, ([] : List Int), false, false, false, false, 4⟩ : S38)] : List (S38)))).bind fun bt143 => (if t105 = 0 then ((partitalaw10_ints.f k t104 (([0, 1, 0, 1, 2] : List Int))).bind fun t148 => (if t148 = true then (if bt117.2 = 0 then ((partitalaw10_ints.f k bt117.1 (([0, 1, 0, 2] : List Int))).bind fun t152 => (if t152 = true then (if bt124.2 = 0 then ((partitalaw10_ints.f k bt124.1 (([0, 1, 0] : List Int))).bind fun t156 => (if t156 = true then (if bt131.2 = 0 then ((partitalaw10_ints.f k bt131.1 (([1, 1, 2, 2, 1] : List Int))).bind fun t160 => (if t160 = true then (if bt138.1 = 1 then (if bt138.2 = 100 then (if bt143.1 = 1 then (some (bt143.2 == 100)) else (none)) else (none)) else (none)) else (none))) else (none)) else (none))) else (none)) else (none))) else (none)) else (none))) else (none))))))) = some r := by first | (rw [hy111]; with_reducible exact H) | (have H2_ := (Option.bind_some _ _).symm.trans H; rw [hy111]; with_reducible exact H2_) | (have H2_ := (Option.bind_some _ _).symm.trans H; with_reducible exact H2_) | with_reducible exact H | (rw [hy111]; exact H) | exact H
  have Ny111 := Aside0.mk hy111
  clear hy111
  obtain ⟨y114, hy114⟩ : ∃ y_ : List (S38), y_ = (([(⟨false, 0, ([] : List Int), false, false, false, false, 0⟩ : S38), (⟨false, 2, y108, false, false, false, false, 0⟩ : S38), (⟨false, 0, y111, false, false, false, false, 0⟩ : S38)] : List (S38))) := ⟨_, rfl⟩
  replace H : ((turns_Unfold.f k y114).bind fun bt117 => ((turns_Unfold.f k (([(⟨false, 0, ([] : List Int), false, false, false, true, 0⟩ : S38), (⟨false, 0, ([] : List Int), false, false, false, false, 2⟩ : S38)] : List (S38)))).bind fun bt124 => ((turns_Passes.f k (([(⟨false, 0, ([] : List Int), false, false, false, false, 0⟩ : S38), (⟨false, 2, ([] : List Int), false, false, false, false, 0⟩ : S38), (⟨false, 0, ([] : List Int), false, false, false, false, 0⟩ : S38)] : List (S38)))).bind fun bt131 => ((turns_Check.f k (([(⟨false, 0, ([] : List Int), false, false, false, false, 0⟩ : S38), (⟨false, 1, ([] : List Int), false, false, false, false, 0⟩ : S38)] : List (S38)))).bind fun bt138 => ((turns_Check.f k (([(⟨false, 0, ([] : List Int), false, false, false, false, 0⟩ : S38), (⟨false, 0, ([] : List Int), false, false, false, false, 4⟩ : S38)] : List (S38)))).bind fun bt143 => (if t105 = 0 then ((partitalaw10_ints.f k t104 (([0, 1, 0, 1, 2] : List Int))).bind fun t148 => (if t148 = true then (if bt117.2 = 0 then ((partitalaw10_ints.f k bt117.1 (([0, 1, 0, 2] : List Int))).bind fun t152 => (if t152 = true then (if bt124.2 = 0 then ((partitalaw10_ints.f k bt124.1 (([0, 1, 0] : List Int))).bind fun t156 => (if t156 = true then (if bt131.2 = 0 then ((partitalaw10_ints.f k bt131.1 (([1, 1, 2, 2, 1] : List Int))).bind fun t160 => (if t160 = true then (if bt138.1 = 1 then (if bt138.2 = 100 then (if bt143.1 = 1 then (some (bt143.2 == 100)) else (none)) else (none)) else (none)) else (none))) else (none)) else (none))) else (none)) else (none))) else (none)) else (none))) else (none))))))) = some r := by first | (rw [hy114]; with_reducible exact H) | (have H2_ := (Option.bind_some _ _).symm.trans H; rw [hy114]; with_reducible exact H2_) | (have H2_ := (Option.bind_some _ _).symm.trans H; with_reducible exact H2_) | with_reducible exact H | (rw [hy114]; exact H) | exact H
  have Ny114 := Aside0.mk hy114
  clear hy114
  replace H := Option.bind_eq_some_iff.mp H
  obtain ⟨⟨t117, t118⟩, A20, H⟩ := H
  try dsimp -simprocs only at H
  have A2 := Aside0.mk A20
  clear A20
  obtain ⟨y121, hy121⟩ : ∃ y_ : List (S38), y_ = (([(⟨false, 0, ([] : List Int), false, false, false, true, 0⟩ : S38), (⟨false, 0, ([] : List Int), false, false, false, false, 2⟩ : S38)] : List (S38))) := ⟨_, rfl⟩
  replace H : ((turns_Unfold.f k y121).bind fun bt124 => ((turns_Passes.f k (([(⟨false, 0, ([] : List Int), false, false, false, false, 0⟩ : S38), (⟨false, 2, ([] : List Int), false, false, false, false, 0⟩ : S38), (⟨false, 0, ([] : List Int), false, false, false, false, 0⟩ : S38)] : List (S38)))).bind fun bt131 => ((turns_Check.f k (([(⟨false, 0, ([] : List Int), false, false, false, false, 0⟩ : S38), (⟨false, 1, ([] : List Int), false, false, false, false, 0⟩ : S38)] : List (S38)))).bind fun bt138 => ((turns_Check.f k (([(⟨false, 0, ([] : List Int), false, false, false, false, 0⟩ : S38), (⟨false, 0, ([] : List Int), false, false, false, false, 4⟩ : S38)] : List (S38)))).bind fun bt143 => (if t105 = 0 then ((partitalaw10_ints.f k t104 (([0, 1, 0, 1, 2] : List Int))).bind fun t148 => (if t148 = true then (if t118 = 0 then ((partitalaw10_ints.f k t117 (([0, 1, 0, 2] : List Int))).bind fun t152 => (if t152 = true then (if bt124.2 = 0 then ((partitalaw10_ints.f k bt124.1 (([0, 1, 0] : List Int))).bind fun t156 => (if t156 = true then (if bt131.2 = 0 then ((partitalaw10_ints.f k bt131.1 (([1, 1, 2, 2, 1] : List Int))).bind fun t160 => (if t160 = true then (if bt138.1 = 1 then (if bt138.2 = 100 then (if bt143.1 = 1 then (some (bt143.2 == 100)) else (none)) else (none)) else (none)) else (none))) else (none)) else (none))) else (none)) else (none))) else (none)) else (none))) else (none)))))) = some r := by first | (rw [hy121]; with_reducible exact H) | (have H2_ := (Option.bind_some _ _).symm.trans H; rw [hy121]; with_reducible exact H2_) | (have H2_ := (Option.bind_some _ _).symm.trans H; with_reducible exact H2_) | with_reducible exact H | (rw [hy121]; exact H) | exact H
  have Ny121 := Aside0.mk hy121
  clear hy121
  replace H := Option.bind_eq_some_iff.mp H
  obtain ⟨⟨t124, t125⟩, A30, H⟩ := H
  try dsimp -simprocs only at H
  have A3 := Aside0.mk A30
  clear A30
  obtain ⟨y128, hy128⟩ : ∃ y_ : List (S38), y_ = (([(⟨false, 0, ([] : List Int), false, false, false, false, 0⟩ : S38), (⟨false, 2, ([] : List Int), false, false, false, false, 0⟩ : S38), (⟨false, 0, ([] : List Int), false, false, false, false, 0⟩ : S38)] : List (S38))) := ⟨_, rfl⟩
  replace H : ((turns_Passes.f k y128).bind fun bt131 => ((turns_Check.f k (([(⟨false, 0, ([] : List Int), false, false, false, false, 0⟩ : S38), (⟨false, 1, ([] : List Int), false, false, false, false, 0⟩ : S38)] : List (S38)))).bind fun bt138 => ((turns_Check.f k (([(⟨false, 0, ([] : List Int), false, false, false, false, 0⟩ : S38), (⟨false, 0, ([] : List Int), false, false, false, false, 4⟩ : S38)] : List (S38)))).bind fun bt143 => (if t105 = 0 then ((partitalaw10_ints.f k t104 (([0, 1, 0, 1, 2] : List Int))).bind fun t148 => (if t148 = true then (if t118 = 0 then ((partitalaw10_ints.f k t117 (([0, 1, 0, 2] : List Int))).bind fun t152 => (if t152 = true then (if t125 = 0 then ((partitalaw10_ints.f k t124 (([0, 1, 0] : List Int))).bind fun t156 => (if t156 = true then (if bt131.2 = 0 then ((partitalaw10_ints.f k bt131.1 (([1, 1, 2, 2, 1] : List Int))).bind fun t160 => (if t160 = true then (if bt138.1 = 1 then (if bt138.2 = 100 then (if bt143.1 = 1 then (some (bt143.2 == 100)) else (none)) else (none)) else (none)) else (none))) else (none)) else (none))) else (none)) else (none))) else (none)) else (none))) else (none))))) = some r := by first | (rw [hy128]; with_reducible exact H) | (have H2_ := (Option.bind_some _ _).symm.trans H; rw [hy128]; with_reducible exact H2_) | (have H2_ := (Option.bind_some _ _).symm.trans H; with_reducible exact H2_) | with_reducible exact H | (rw [hy128]; exact H) | exact H
  have Ny128 := Aside0.mk hy128
  clear hy128
  replace H := Option.bind_eq_some_iff.mp H
  obtain ⟨⟨t131, t132⟩, A40, H⟩ := H
  try dsimp -simprocs only at H
  have A4 := Aside0.mk A40
  clear A40
  obtain ⟨y135, hy135⟩ : ∃ y_ : List (S38), y_ = (([(⟨false, 0, ([] : List Int), false, false, false, false, 0⟩ : S38), (⟨false, 1, ([] : List Int), false, false, false, false, 0⟩ : S38)] : List (S38))) := ⟨_, rfl⟩
  replace H : ((turns_Check.f k y135).bind fun bt138 => ((turns_Check.f k (([(⟨false, 0, ([] : List Int), false, false, false, false, 0⟩ : S38), (⟨false, 0, ([] : List Int), false, false, false, false, 4⟩ : S38)] : List (S38)))).bind fun bt143 => (if t105 = 0 then ((partitalaw10_ints.f k t104 (([0, 1, 0, 1, 2] : List Int))).bind fun t148 => (if t148 = true then (if t118 = 0 then ((partitalaw10_ints.f k t117 (([0, 1, 0, 2] : List Int))).bind fun t152 => (if t152 = true then (if t125 = 0 then ((partitalaw10_ints.f k t124 (([0, 1, 0] : List Int))).bind fun t156 => (if t156 = true then (if t132 = 0 then ((partitalaw10_ints.f k t131 (([1, 1, 2, 2, 1] : List Int))).bind fun t160 => (if t160 = true then (if bt138.1 = 1 then (if bt138.2 = 100 then (if bt143.1 = 1 then (some (bt143.2 == 100)) else (none)) else (none)) else (none)) else (none))) else (none)) else (none))) else (none)) else (none))) else (none)) else (none))) else (none)))) = some r := by first | (rw [hy135]; with_reducible exact H) | (have H2_ := (Option.bind_some _ _).symm.trans H; rw [hy135]; with_reducible exact H2_) | (have H2_ := (Option.bind_some _ _).symm.trans H; with_reducible exact H2_) | with_reducible exact H | (rw [hy135]; exact H) | exact H
  have Ny135 := Aside0.mk hy135
  clear hy135
  replace H := Option.bind_eq_some_iff.mp H
  obtain ⟨⟨t138, t139⟩, A50, H⟩ := H
  try dsimp -simprocs only at H
  have A5 := Aside0.mk A50
  clear A50
  obtain ⟨y140, hy140⟩ : ∃ y_ : List (S38), y_ = (([(⟨false, 0, ([] : List Int), false, false, false, false, 0⟩ : S38), (⟨false, 0, ([] : List Int), false, false, false, false, 4⟩ : S38)] : List (S38))) := ⟨_, rfl⟩
  replace H : ((turns_Check.f k y140).bind fun bt143 => (if t105 = 0 then ((partitalaw10_ints.f k t104 (([0, 1, 0, 1, 2] : List Int))).bind fun t148 => (if t148 = true then (if t118 = 0 then ((partitalaw10_ints.f k t117 (([0, 1, 0, 2] : List Int))).bind fun t152 => (if t152 = true then (if t125 = 0 then ((partitalaw10_ints.f k t124 (([0, 1, 0] : List Int))).bind fun t156 => (if t156 = true then (if t132 = 0 then ((partitalaw10_ints.f k t131 (([1, 1, 2, 2, 1] : List Int))).bind fun t160 => (if t160 = true then (if t138 = 1 then (if t139 = 100 then (if bt143.1 = 1 then (some (bt143.2 == 100)) else (none)) else (none)) else (none)) else (none))) else (none)) else (none))) else (none)) else (none))) else (none)) else (none))) else (none))) = some r := by first | (rw [hy140]; with_reducible exact H) | (have H2_ := (Option.bind_some _ _).symm.trans H; rw [hy140]; with_reducible exact H2_) | (have H2_ := (Option.bind_some _ _).symm.trans H; with_reducible exact H2_) | with_reducible exact H | (rw [hy140]; exact H) | exact H
  have Ny140 := Aside0.mk hy140
  clear hy140
  replace H := Option.bind_eq_some_iff.mp H
  obtain ⟨⟨t143, t144⟩, A60, H⟩ := H
  try dsimp -simprocs only at H
  have A6 := Aside0.mk A60
  clear A60
  by_cases c7 : t105 = 0
  rotate_left
  · rw [if_neg c7] at H
    exact absurd H (by simp)
  rw [if_pos c7] at H
  have c7b0 : (t105 == 0) = true := beq_iff_eq.mpr c7
  have c7b1 : (t105 != 0) = false := bne_eq_false_iff_eq.mpr c7
  clear c7
  obtain ⟨y145, hy145⟩ : ∃ y_ : List Int, y_ = (([0, 1, 0, 1, 2] : List Int)) := ⟨_, rfl⟩
  replace H : ((partitalaw10_ints.f k t104 y145).bind fun t148 => (if t148 = true then (if t118 = 0 then ((partitalaw10_ints.f k t117 (([0, 1, 0, 2] : List Int))).bind fun t152 => (if t152 = true then (if t125 = 0 then ((partitalaw10_ints.f k t124 (([0, 1, 0] : List Int))).bind fun t156 => (if t156 = true then (if t132 = 0 then ((partitalaw10_ints.f k t131 (([1, 1, 2, 2, 1] : List Int))).bind fun t160 => (if t160 = true then (if t138 = 1 then (if t139 = 100 then (if t143 = 1 then (some (t144 == 100)) else (none)) else (none)) else (none)) else (none))) else (none)) else (none))) else (none)) else (none))) else (none)) else (none))) = some r := by first | (rw [hy145]; with_reducible exact H) | (have H2_ := (Option.bind_some _ _).symm.trans H; rw [hy145]; with_reducible exact H2_) | (have H2_ := (Option.bind_some _ _).symm.trans H; with_reducible exact H2_) | with_reducible exact H | (rw [hy145]; exact H) | exact H
  have Ny145 := Aside0.mk hy145
  clear hy145
  replace H := Option.bind_eq_some_iff.mp H
  obtain ⟨t148, A80, H⟩ := H
  try dsimp -simprocs only at H
  have A8 := Aside0.mk A80
  clear A80
  by_cases c9 : t148 = true
  rotate_left
  · replace c9 := Bool.eq_false_iff.mpr c9
    subst c9
    have H1 : (none) = some r := by rw [if_neg (show ¬ (false = true) by decide)] at H; exact H
    clear H
    have H := H1
    clear H1
    exact absurd H (by simp)
  subst c9
  have H1 : (if t118 = 0 then ((partitalaw10_ints.f k t117 (([0, 1, 0, 2] : List Int))).bind fun t152 => (if t152 = true then (if t125 = 0 then ((partitalaw10_ints.f k t124 (([0, 1, 0] : List Int))).bind fun t156 => (if t156 = true then (if t132 = 0 then ((partitalaw10_ints.f k t131 (([1, 1, 2, 2, 1] : List Int))).bind fun t160 => (if t160 = true then (if t138 = 1 then (if t139 = 100 then (if t143 = 1 then (some (t144 == 100)) else (none)) else (none)) else (none)) else (none))) else (none)) else (none))) else (none)) else (none))) else (none)) = some r := by rw [if_pos rfl] at H; exact H
  clear H
  have H := H1
  clear H1
  by_cases c10 : t118 = 0
  rotate_left
  · rw [if_neg c10] at H
    exact absurd H (by simp)
  rw [if_pos c10] at H
  have c10b0 : (t118 == 0) = true := beq_iff_eq.mpr c10
  have c10b1 : (t118 != 0) = false := bne_eq_false_iff_eq.mpr c10
  clear c10
  obtain ⟨y149, hy149⟩ : ∃ y_ : List Int, y_ = (([0, 1, 0, 2] : List Int)) := ⟨_, rfl⟩
  replace H : ((partitalaw10_ints.f k t117 y149).bind fun t152 => (if t152 = true then (if t125 = 0 then ((partitalaw10_ints.f k t124 (([0, 1, 0] : List Int))).bind fun t156 => (if t156 = true then (if t132 = 0 then ((partitalaw10_ints.f k t131 (([1, 1, 2, 2, 1] : List Int))).bind fun t160 => (if t160 = true then (if t138 = 1 then (if t139 = 100 then (if t143 = 1 then (some (t144 == 100)) else (none)) else (none)) else (none)) else (none))) else (none)) else (none))) else (none)) else (none))) = some r := by first | (rw [hy149]; with_reducible exact H) | (have H2_ := (Option.bind_some _ _).symm.trans H; rw [hy149]; with_reducible exact H2_) | (have H2_ := (Option.bind_some _ _).symm.trans H; with_reducible exact H2_) | with_reducible exact H | (rw [hy149]; exact H) | exact H
  have Ny149 := Aside0.mk hy149
  clear hy149
  replace H := Option.bind_eq_some_iff.mp H
  obtain ⟨t152, A110, H⟩ := H
  try dsimp -simprocs only at H
  have A11 := Aside0.mk A110
  clear A110
  by_cases c12 : t152 = true
  rotate_left
  · replace c12 := Bool.eq_false_iff.mpr c12
    subst c12
    have H1 : (none) = some r := by rw [if_neg (show ¬ (false = true) by decide)] at H; exact H
    clear H
    have H := H1
    clear H1
    exact absurd H (by simp)
  subst c12
  have H1 : (if t125 = 0 then ((partitalaw10_ints.f k t124 (([0, 1, 0] : List Int))).bind fun t156 => (if t156 = true then (if t132 = 0 then ((partitalaw10_ints.f k t131 (([1, 1, 2, 2, 1] : List Int))).bind fun t160 => (if t160 = true then (if t138 = 1 then (if t139 = 100 then (if t143 = 1 then (some (t144 == 100)) else (none)) else (none)) else (none)) else (none))) else (none)) else (none))) else (none)) = some r := by rw [if_pos rfl] at H; exact H
  clear H
  have H := H1
  clear H1
  by_cases c13 : t125 = 0
  rotate_left
  · rw [if_neg c13] at H
    exact absurd H (by simp)
  rw [if_pos c13] at H
  have c13b0 : (t125 == 0) = true := beq_iff_eq.mpr c13
  have c13b1 : (t125 != 0) = false := bne_eq_false_iff_eq.mpr c13
  clear c13
  obtain ⟨y153, hy153⟩ : ∃ y_ : List Int, y_ = (([0, 1, 0] : List Int)) := ⟨_, rfl⟩
  replace H : ((partitalaw10_ints.f k t124 y153).bind fun t156 => (if t156 = true then (if t132 = 0 then ((partitalaw10_ints.f k t131 (([1, 1, 2, 2, 1] : List Int))).bind fun t160 => (if t160 = true then (if t138 = 1 then (if t139 = 100 then (if t143 = 1 then (some (t144 == 100)) else (none)) else (none)) else (none)) else (none))) else (none)) else (none))) = some r := by first | (rw [hy153]; with_reducible exact H) | (have H2_ := (Option.bind_some _ _).symm.trans H; rw [hy153]; with_reducible exact H2_) | (have H2_ := (Option.bind_some _ _).symm.trans H; with_reducible exact H2_) | with_reducible exact H | (rw [hy153]; exact H) | exact H
  have Ny153 := Aside0.mk hy153
  clear hy153
  replace H := Option.bind_eq_some_iff.mp H
  obtain ⟨t156, A140, H⟩ := H
  try dsimp -simprocs only at H
  have A14 := Aside0.mk A140
  clear A140
  by_cases c15 : t156 = true
  rotate_left
  · replace c15 := Bool.eq_false_iff.mpr c15
    subst c15
    have H1 : (none) = some r := by rw [if_neg (show ¬ (false = true) by decide)] at H; exact H
    clear H
    have H := H1
    clear H1
    exact absurd H (by simp)
  subst c15
  have H1 : (if t132 = 0 then ((partitalaw10_ints.f k t131 (([1, 1, 2, 2, 1] : List Int))).bind fun t160 => (if t160 = true then (if t138 = 1 then (if t139 = 100 then (if t143 = 1 then (some (t144 == 100)) else (none)) else (none)) else (none)) else (none))) else (none)) = some r := by rw [if_pos rfl] at H; exact H
  clear H
  have H := H1
  clear H1
  by_cases c16 : t132 = 0
  rotate_left
  · rw [if_neg c16] at H
    exact absurd H (by simp)
  rw [if_pos c16] at H
  have c16b0 : (t132 == 0) = true := beq_iff_eq.mpr c16
  have c16b1 : (t132 != 0) = false := bne_eq_false_iff_eq.mpr c16
  clear c16
  obtain ⟨y157, hy157⟩ : ∃ y_ : List Int, y_ = (([1, 1, 2, 2, 1] : List Int)) := ⟨_, rfl⟩
  replace H : ((partitalaw10_ints.f k t131 y157).bind fun t160 => (if t160 = true then (if t138 = 1 then (if t139 = 100 then (if t143 = 1 then (some (t144 == 100)) else (none)) else (none)) else (none)) else (none))) = some r := by first | (rw [hy157]; with_reducible exact H) | (have H2_ := (Option.bind_some _ _).symm.trans H; rw [hy157]; with_reducible exact H2_) | (have H2_ := (Option.bind_some _ _).symm.trans H; with_reducible exact H2_) | with_reducible exact H | (rw [hy157]; exact H) | exact H
  have Ny157 := Aside0.mk hy157
  clear hy157
  replace H := Option.bind_eq_some_iff.mp H
  obtain ⟨t160, A170, H⟩ := H
  try dsimp -simprocs only at H
  have A17 := Aside0.mk A170
  clear A170
  by_cases c18 : t160 = true
  rotate_left
  · replace c18 := Bool.eq_false_iff.mpr c18
    subst c18
    have H1 : (none) = some r := by rw [if_neg (show ¬ (false = true) by decide)] at H; exact H
    clear H
    have H := H1
    clear H1
    exact absurd H (by simp)
  subst c18
  have H1 : (if t138 = 1 then (if t139 = 100 then (if t143 = 1 then (some (t144 == 100)) else (none)) else (none)) else (none)) = some r := by rw [if_pos rfl] at H; exact H
  clear H
  have H := H1
  clear H1
  by_cases c19 : t138 = 1
  rotate_left
  · rw [if_neg c19] at H
    exact absurd H (by simp)
  rw [if_pos c19] at H
  have c19b0 : (t138 == 1) = true := beq_iff_eq.mpr c19
  have c19b1 : (t138 != 1) = false := bne_eq_false_iff_eq.mpr c19
  clear c19
  by_cases c20 : t139 = 100
  rotate_left
  · rw [if_neg c20] at H
    exact absurd H (by simp)
  rw [if_pos c20] at H
  have c20b0 : (t139 == 100) = true := beq_iff_eq.mpr c20
  have c20b1 : (t139 != 100) = false := bne_eq_false_iff_eq.mpr c20
  clear c20
  by_cases c21 : t143 = 1
  rotate_left
  · rw [if_neg c21] at H
    exact absurd H (by simp)
  rw [if_pos c21] at H
  have c21b0 : (t143 == 1) = true := beq_iff_eq.mpr c21
  have c21b1 : (t143 != 1) = false := bne_eq_false_iff_eq.mpr c21
  clear c21
  obtain rfl := Option.some.inj H
  go_enter Try.func11, Try.ntmps11
  go_wp2_with (first | ((with_reducible refine gate_dst (N := 17) rfl ?_); (try (refine gate_guard (by rfl) ?_; dsimp only)); refine Kd.N_lit k38 _ 38 ?hg (N' := 17) ?hd (xs := ([(⟨false, 0, ([] : List Int), false, false, false, false, 0⟩ : S38), (⟨false, 2, ([] : List Int), false, false, false, false, 0⟩ : S38), (⟨false, 0, ([] : List Int), false, false, false, false, 0⟩ : S38)] : List (S38))) (inner := [.bool false, .int .i64 0, .slice none 0 0, .bool false, .bool false, .bool false, .bool false, .int .i64 0, .bool false, .int .i64 2, .slice none 0 0, .bool false, .bool false, .bool false, .bool false, .int .i64 0, .bool false, .int .i64 0, .slice none 0 0, .bool false, .bool false, .bool false, .bool false, .int .i64 0]) (ok := (fun _ => True)) (okp := (fun _ => True)) ?hr ?hp (fun _ hk => hk) ((show ∀ k_, w.heap.size ≤ k_ → (fun _ => True) k_ from fun k_ hk => trivial) _ (Nat.le_refl _)) (Below.refl _ _) (Nat.le_refl _) (by simp) ?_; (case hd => rfl); (case hg => rfl); (case hr => exact qqj); (case hp => exact qqd); intro v102 w22 ho23 hb hg_ hnew_; clear hg_ hnew_; (first | rw [← Ny101.out] at ho23 | (simp only [Int.reduceToNat] at ho23; rw [← Ny101.out] at ho23)); have HO103 := Aside0.mk (Kd.N_lower ho23 (below_size (qB HB.out))); replace HB := Aside0.mk (below_step (qB HB.out) hb); clear hb ho23; obtain ⟨Ao24, co24, eo24⟩ := Kd.N_slice HO103.out; subst eo24) | ((with_reducible refine gate_callee (f := 15) rfl ?_); refine goesL_ (some 18) rfl rfl Try.func15 (by kernel_rfl) rfl #[.slice Ao24 y101.length co24] rfl qq1 ?_; (with_reducible refine (turns_Unfold.calls k _ _ y101 t104 t105 _ ?side1 ?side2 A1.out).mono ?_); (case side1 => repeat (first | exact (Kd.N_reads' HO103.out).2.2 | (with_reducible refine Kd.C_alloc ?_ _) | (with_reducible refine Kd.C_drewN ?_ _) | (with_reducible refine Kd.C_drew ?_))); (case side2 => exact (Kd.N_reads' HO103.out).2.1); rintro e w25 ⟨v106, rfl, ho0, hb⟩; refine ⟨_, rfl, ?_⟩; replace HO103 := Aside0.mk (Kd.N_elder' (qN HO103.out) (Kd.R_base ho0) hb); have HO107 := Aside0.mk (Kd.R_lower ho0 (below_size (qB HB.out))); replace HB := Aside0.mk (below_step (qB HB.out) hb); (try clear hb); (try clear hb2); (try clear hk); (try clear hi); (try clear ho0)) | ((with_reducible refine gate_dst (N := 23) rfl ?_); (try (refine gate_guard (by rfl) ?_; dsimp only)); refine Kd.R_lit (Kd.int .i64) _ 3 ?hg (N := 23) ?hd (xs := ([1] : List Int)) (inner := [.int .i64 1]) (ok := fun _ => True) (okp := fun _ => True) ?hr ?hp (fun _ hk => hk) trivial (Below.refl _ _) (Nat.le_refl _) (by simp) ?_; (case hd => rfl); (case hg => rfl); (case hr => exact qqj); (case hp => exact (Reps.one (show Kd.M (Kd.int .i64) _ _ _ 1 [.int .i64 1] from rfl) (Reps.none _ _))); intro v109 w26 ho27 hb hg_ hnew_; clear hg_ hnew_; (first | rw [← Ny108.out] at ho27 | (simp only [Int.reduceToNat] at ho27; rw [← Ny108.out] at ho27)); replace HO103 := Aside0.mk (Kd.N_elder' (qN HO103.out) (Kd.R_base ho27) hb); have HO110 := Aside0.mk (Kd.R_lower (Kd.R_new' ho27 (Kd.R_lt (qR HO107.out))) (below_size (qB HB.out))); replace HO107 := Aside0.mk (Kd.R_elder' (qR HO107.out) (Kd.R_base ho27) hb); replace HB := Aside0.mk (below_step (qB HB.out) hb); clear hb ho27; obtain ⟨Ao28, co28, eo28⟩ := Kd.R_slice HO110.out; subst eo28) | ((with_reducible refine gate_dst (N := 25) rfl ?_); (try (refine gate_guard (by rfl) ?_; dsimp only)); refine Kd.R_lit (Kd.int .i64) _ 3 ?hg (N := 25) ?hd (xs := ([2] : List Int)) (inner := [.int .i64 2]) (ok := fun _ => True) (okp := fun _ => True) ?hr ?hp (fun _ hk => hk) trivial (Below.refl _ _) (Nat.le_refl _) (by simp) ?_; (case hd => rfl); (case hg => rfl); (case hr => exact qqj); (case hp => exact (Reps.one (show Kd.M (Kd.int .i64) _ _ _ 2 [.int .i64 2] from rfl) (Reps.none _ _))); intro v112 w29 ho30 hb hg_ hnew_; clear hg_ hnew_; (first | rw [← Ny111.out] at ho30 | (simp only [Int.reduceToNat] at ho30; rw [← Ny111.out] at ho30)); replace HO103 := Aside0.mk (Kd.N_elder' (qN HO103.out) (Kd.R_base ho30) hb); have HO113 := Aside0.mk (Kd.R_lower (Kd.R_new' (Kd.R_new' ho30 (Kd.R_lt (qR HO107.out))) (Kd.R_lt (qR HO110.out))) (below_size (qB HB.out))); replace HO107 := Aside0.mk (Kd.R_elder' (qR HO107.out) (Kd.R_base ho30) hb); replace HO110 := Aside0.mk (Kd.R_elder' (qR HO110.out) (Kd.R_base ho30) hb); replace HB := Aside0.mk (below_step (qB HB.out) hb); clear hb ho30; obtain ⟨Ao31, co31, eo31⟩ := Kd.R_slice HO113.out; subst eo31) | ((with_reducible refine gate_dst (N := 27) rfl ?_); (try (refine gate_guard (by rfl) ?_; dsimp only)); refine Kd.N_lit k38 _ 38 ?hg (N' := 27) ?hd (xs := ([(⟨false, 0, ([] : List Int), false, false, false, false, 0⟩ : S38), (⟨false, 2, y108, false, false, false, false, 0⟩ : S38), (⟨false, 0, y111, false, false, false, false, 0⟩ : S38)] : List (S38))) (inner := [.bool false, .int .i64 0, .slice none 0 0, .bool false, .bool false, .bool false, .bool false, .int .i64 0, .bool false, .int .i64 2, .slice Ao28 y108.length co28, .bool false, .bool false, .bool false, .bool false, .int .i64 0, .bool false, .int .i64 0, .slice Ao31 y111.length co31, .bool false, .bool false, .bool false, .bool false, .int .i64 0]) (ok := (fun k_ => some k_ ≠ (.slice Ao24 y101.length co24 : Value).ownBlock ∧ some k_ ≠ (v106 : Value).ownBlock)) (okp := (fun k_ => some k_ ≠ (.slice Ao24 y101.length co24 : Value).ownBlock ∧ some k_ ≠ (v106 : Value).ownBlock)) ?hr ?hp (fun _ hk => hk) ((show ∀ k_, w29.heap.size ≤ k_ → (fun k_ => some k_ ≠ (.slice Ao24 y101.length co24 : Value).ownBlock ∧ some k_ ≠ (v106 : Value).ownBlock) k_ from fun k_ hk => ⟨Kd.fresh' (Kd.N_lt (qN HO103.out)) k_ hk, Kd.fresh' (Kd.R_lt (qR HO107.out)) k_ hk⟩) _ (Nat.le_refl _)) (Below.refl _ _) (Nat.le_refl _) (by simp) ?_; (case hd => rfl); (case hg => rfl); (case hr => exact qqj); (case hp => exact (Reps.c8 (show Kd.FK k38 _ _ (⟨false, 0, ([] : List Int), false, false, false, false, 0⟩ : S38) [.bool false, .int .i64 0, .slice none 0 0, .bool false, .bool false, .bool false, .bool false, .int .i64 0] from (k38_mkF _ _ (⟨false, 0, ([] : List Int), false, false, false, false, 0⟩ : S38) (Nat.le_refl _) (Kd.F_nil _ _ _))) (Reps.c8 (show Kd.FK k38 _ _ (⟨false, 2, y108, false, false, false, false, 0⟩ : S38) [.bool false, .int .i64 2, .slice Ao28 y108.length co28, .bool false, .bool false, .bool false, .bool false, .int .i64 0] from (k38_mkF _ _ (⟨false, 2, y108, false, false, false, false, 0⟩ : S38) (Kd.R_reads' (Kd.R_mono (ok' := (fun k_ => some k_ ≠ (.slice Ao24 y101.length co24 : Value).ownBlock ∧ some k_ ≠ (v106 : Value).ownBlock)) (Kd.R_apart' (HO110.out) (Kd.N_typed HO103.out) (by decide)) (fun k_ hk => ⟨hk.2, hk.1.1.2⟩))).2.1 (Kd.R_F (Kd.R_mono (ok' := (fun k_ => some k_ ≠ (.slice Ao24 y101.length co24 : Value).ownBlock ∧ some k_ ≠ (v106 : Value).ownBlock)) (Kd.R_apart' (HO110.out) (Kd.N_typed HO103.out) (by decide)) (fun k_ hk => ⟨hk.2, hk.1.1.2⟩))))) (Reps.c8 (show Kd.FK k38 _ _ (⟨false, 0, y111, false, false, false, false, 0⟩ : S38) [.bool false, .int .i64 0, .slice Ao31 y111.length co31, .bool false, .bool false, .bool false, .bool false, .int .i64 0] from (k38_mkF _ _ (⟨false, 0, y111, false, false, false, false, 0⟩ : S38) (Kd.R_reads' (Kd.R_mono (ok' := (fun k_ => some k_ ≠ (.slice Ao24 y101.length co24 : Value).ownBlock ∧ some k_ ≠ (v106 : Value).ownBlock)) (Kd.R_apart' (HO113.out) (Kd.N_typed HO103.out) (by decide)) (fun k_ hk => ⟨hk.2, hk.1.1.2⟩))).2.1 (Kd.R_F (Kd.R_mono (ok' := (fun k_ => some k_ ≠ (.slice Ao24 y101.length co24 : Value).ownBlock ∧ some k_ ≠ (v106 : Value).ownBlock)) (Kd.R_apart' (HO113.out) (Kd.N_typed HO103.out) (by decide)) (fun k_ hk => ⟨hk.2, hk.1.1.2⟩))))) (Reps.none _ _))))); intro v115 w32 ho33 hb hg_ hnew_; clear hg_ hnew_; (first | rw [← Ny114.out] at ho33 | (simp only [Int.reduceToNat] at ho33; rw [← Ny114.out] at ho33)); replace HO103 := Aside0.mk (Kd.N_elder' (qN HO103.out) (Kd.N_base ho33) hb); replace HO107 := Aside0.mk (Kd.R_below (qR HO107.out) hb); have HO116 := Aside0.mk (Kd.N_lower ho33 (below_size (qB HB.out))); replace HB := Aside0.mk (below_step (qB HB.out) hb); clear HO110 HO113; clear hb ho33; obtain ⟨Ao34, co34, eo34⟩ := Kd.N_slice HO116.out; subst eo34) | ((with_reducible refine gate_callee (f := 15) rfl ?_); refine goesL_ (some 28) rfl rfl Try.func15 (by kernel_rfl) rfl #[.slice Ao34 y114.length co34] rfl qq1 ?_; (with_reducible refine (turns_Unfold.calls k _ _ y114 t117 t118 _ ?side1 ?side2 A2.out).mono ?_); (case side1 => repeat (first | exact (Kd.N_reads' HO116.out).2.2 | (with_reducible refine Kd.C_alloc ?_ _) | (with_reducible refine Kd.C_drewN ?_ _) | (with_reducible refine Kd.C_drew ?_))); (case side2 => exact (Kd.N_reads' HO116.out).2.1); rintro e w35 ⟨v119, rfl, ho0, hb⟩; refine ⟨_, rfl, ?_⟩; replace HO103 := Aside0.mk (Kd.N_elder' (qN HO103.out) (Kd.R_base ho0) hb); replace HO116 := Aside0.mk (Kd.N_elder' (qN HO116.out) (Kd.R_base ho0) hb); have HO120 := Aside0.mk (Kd.R_lower (Kd.R_new' ho0 (Kd.R_lt (qR HO107.out))) (below_size (qB HB.out))); replace HO107 := Aside0.mk (Kd.R_elder' (qR HO107.out) (Kd.R_base ho0) hb); replace HB := Aside0.mk (below_step (qB HB.out) hb); (try clear hb); (try clear hb2); (try clear hk); (try clear hi); (try clear ho0)) | ((with_reducible refine gate_dst (N := 34) rfl ?_); (try (refine gate_guard (by rfl) ?_; dsimp only)); refine Kd.N_lit k38 _ 38 ?hg (N' := 34) ?hd (xs := ([(⟨false, 0, ([] : List Int), false, false, false, true, 0⟩ : S38), (⟨false, 0, ([] : List Int), false, false, false, false, 2⟩ : S38)] : List (S38))) (inner := [.bool false, .int .i64 0, .slice none 0 0, .bool false, .bool false, .bool false, .bool true, .int .i64 0, .bool false, .int .i64 0, .slice none 0 0, .bool false, .bool false, .bool false, .bool false, .int .i64 2]) (ok := (fun k_ => some k_ ≠ (.slice Ao24 y101.length co24 : Value).ownBlock ∧ some k_ ≠ (v106 : Value).ownBlock ∧ some k_ ≠ (.slice Ao34 y114.length co34 : Value).ownBlock ∧ some k_ ≠ (v119 : Value).ownBlock)) (okp := (fun k_ => some k_ ≠ (.slice Ao24 y101.length co24 : Value).ownBlock ∧ some k_ ≠ (v106 : Value).ownBlock ∧ some k_ ≠ (.slice Ao34 y114.length co34 : Value).ownBlock ∧ some k_ ≠ (v119 : Value).ownBlock)) ?hr ?hp (fun _ hk => hk) ((show ∀ k_, w35.heap.size ≤ k_ → (fun k_ => some k_ ≠ (.slice Ao24 y101.length co24 : Value).ownBlock ∧ some k_ ≠ (v106 : Value).ownBlock ∧ some k_ ≠ (.slice Ao34 y114.length co34 : Value).ownBlock ∧ some k_ ≠ (v119 : Value).ownBlock) k_ from fun k_ hk => ⟨Kd.fresh' (Kd.N_lt (qN HO103.out)) k_ hk, Kd.fresh' (Kd.R_lt (qR HO107.out)) k_ hk, Kd.fresh' (Kd.N_lt (qN HO116.out)) k_ hk, Kd.fresh' (Kd.R_lt (qR HO120.out)) k_ hk⟩) _ (Nat.le_refl _)) (Below.refl _ _) (Nat.le_refl _) (by simp) ?_; (case hd => rfl); (case hg => rfl); (case hr => exact qqj); (case hp => exact (Reps.c8 (show Kd.FK k38 _ _ (⟨false, 0, ([] : List Int), false, false, false, true, 0⟩ : S38) [.bool false, .int .i64 0, .slice none 0 0, .bool false, .bool false, .bool false, .bool true, .int .i64 0] from (k38_mkF _ _ (⟨false, 0, ([] : List Int), false, false, false, true, 0⟩ : S38) (Nat.le_refl _) (Kd.F_nil _ _ _))) (Reps.c8 (show Kd.FK k38 _ _ (⟨false, 0, ([] : List Int), false, false, false, false, 2⟩ : S38) [.bool false, .int .i64 0, .slice none 0 0, .bool false, .bool false, .bool false, .bool false, .int .i64 2] from (k38_mkF _ _ (⟨false, 0, ([] : List Int), false, false, false, false, 2⟩ : S38) (Nat.le_refl _) (Kd.F_nil _ _ _))) (Reps.none _ _)))); intro v122 w36 ho37 hb hg_ hnew_; clear hg_ hnew_; (first | rw [← Ny121.out] at ho37 | (simp only [Int.reduceToNat] at ho37; rw [← Ny121.out] at ho37)); replace HO103 := Aside0.mk (Kd.N_elder' (qN HO103.out) (Kd.N_base ho37) hb); replace HO107 := Aside0.mk (Kd.R_below (qR HO107.out) hb); replace HO116 := Aside0.mk (Kd.N_elder' (qN HO116.out) (Kd.N_base ho37) hb); replace HO120 := Aside0.mk (Kd.R_below (qR HO120.out) hb); have HO123 := Aside0.mk (Kd.N_lower ho37 (below_size (qB HB.out))); replace HB := Aside0.mk (below_step (qB HB.out) hb); clear hb ho37; obtain ⟨Ao38, co38, eo38⟩ := Kd.N_slice HO123.out; subst eo38) | ((with_reducible refine gate_callee (f := 15) rfl ?_); refine goesL_ (some 35) rfl rfl Try.func15 (by kernel_rfl) rfl #[.slice Ao38 y121.length co38] rfl qq1 ?_; (with_reducible refine (turns_Unfold.calls k _ _ y121 t124 t125 _ ?side1 ?side2 A3.out).mono ?_); (case side1 => repeat (first | exact (Kd.N_reads' HO123.out).2.2 | (with_reducible refine Kd.C_alloc ?_ _) | (with_reducible refine Kd.C_drewN ?_ _) | (with_reducible refine Kd.C_drew ?_))); (case side2 => exact (Kd.N_reads' HO123.out).2.1); rintro e w39 ⟨v126, rfl, ho0, hb⟩; refine ⟨_, rfl, ?_⟩; replace HO103 := Aside0.mk (Kd.N_elder' (qN HO103.out) (Kd.R_base ho0) hb); replace HO116 := Aside0.mk (Kd.N_elder' (qN HO116.out) (Kd.R_base ho0) hb); replace HO123 := Aside0.mk (Kd.N_elder' (qN HO123.out) (Kd.R_base ho0) hb); have HO127 := Aside0.mk (Kd.R_lower (Kd.R_new' (Kd.R_new' ho0 (Kd.R_lt (qR HO107.out))) (Kd.R_lt (qR HO120.out))) (below_size (qB HB.out))); replace HO107 := Aside0.mk (Kd.R_elder' (qR HO107.out) (Kd.R_base ho0) hb); replace HO120 := Aside0.mk (Kd.R_elder' (qR HO120.out) (Kd.R_base ho0) hb); replace HB := Aside0.mk (below_step (qB HB.out) hb); (try clear hb); (try clear hb2); (try clear hk); (try clear hi); (try clear ho0)) | ((with_reducible refine gate_dst (N := 42) rfl ?_); (try (refine gate_guard (by rfl) ?_; dsimp only)); refine Kd.N_lit k38 _ 38 ?hg (N' := 42) ?hd (xs := ([(⟨false, 0, ([] : List Int), false, false, false, false, 0⟩ : S38), (⟨false, 2, ([] : List Int), false, false, false, false, 0⟩ : S38), (⟨false, 0, ([] : List Int), false, false, false, false, 0⟩ : S38)] : List (S38))) (inner := [.bool false, .int .i64 0, .slice none 0 0, .bool false, .bool false, .bool false, .bool false, .int .i64 0, .bool false, .int .i64 2, .slice none 0 0, .bool false, .bool false, .bool false, .bool false, .int .i64 0, .bool false, .int .i64 0, .slice none 0 0, .bool false, .bool false, .bool false, .bool false, .int .i64 0]) (ok := (fun k_ => some k_ ≠ (.slice Ao24 y101.length co24 : Value).ownBlock ∧ some k_ ≠ (v106 : Value).ownBlock ∧ some k_ ≠ (.slice Ao34 y114.length co34 : Value).ownBlock ∧ some k_ ≠ (v119 : Value).ownBlock ∧ some k_ ≠ (.slice Ao38 y121.length co38 : Value).ownBlock ∧ some k_ ≠ (v126 : Value).ownBlock)) (okp := (fun k_ => some k_ ≠ (.slice Ao24 y101.length co24 : Value).ownBlock ∧ some k_ ≠ (v106 : Value).ownBlock ∧ some k_ ≠ (.slice Ao34 y114.length co34 : Value).ownBlock ∧ some k_ ≠ (v119 : Value).ownBlock ∧ some k_ ≠ (.slice Ao38 y121.length co38 : Value).ownBlock ∧ some k_ ≠ (v126 : Value).ownBlock)) ?hr ?hp (fun _ hk => hk) ((show ∀ k_, w39.heap.size ≤ k_ → (fun k_ => some k_ ≠ (.slice Ao24 y101.length co24 : Value).ownBlock ∧ some k_ ≠ (v106 : Value).ownBlock ∧ some k_ ≠ (.slice Ao34 y114.length co34 : Value).ownBlock ∧ some k_ ≠ (v119 : Value).ownBlock ∧ some k_ ≠ (.slice Ao38 y121.length co38 : Value).ownBlock ∧ some k_ ≠ (v126 : Value).ownBlock) k_ from fun k_ hk => ⟨Kd.fresh' (Kd.N_lt (qN HO103.out)) k_ hk, Kd.fresh' (Kd.R_lt (qR HO107.out)) k_ hk, Kd.fresh' (Kd.N_lt (qN HO116.out)) k_ hk, Kd.fresh' (Kd.R_lt (qR HO120.out)) k_ hk, Kd.fresh' (Kd.N_lt (qN HO123.out)) k_ hk, Kd.fresh' (Kd.R_lt (qR HO127.out)) k_ hk⟩) _ (Nat.le_refl _)) (Below.refl _ _) (Nat.le_refl _) (by simp) ?_; (case hd => rfl); (case hg => rfl); (case hr => exact qqj); (case hp => exact qqd); intro v129 w40 ho41 hb hg_ hnew_; clear hg_ hnew_; (first | rw [← Ny128.out] at ho41 | (simp only [Int.reduceToNat] at ho41; rw [← Ny128.out] at ho41)); replace HO103 := Aside0.mk (Kd.N_elder' (qN HO103.out) (Kd.N_base ho41) hb); replace HO107 := Aside0.mk (Kd.R_below (qR HO107.out) hb); replace HO116 := Aside0.mk (Kd.N_elder' (qN HO116.out) (Kd.N_base ho41) hb); replace HO120 := Aside0.mk (Kd.R_below (qR HO120.out) hb); replace HO123 := Aside0.mk (Kd.N_elder' (qN HO123.out) (Kd.N_base ho41) hb); replace HO127 := Aside0.mk (Kd.R_below (qR HO127.out) hb); have HO130 := Aside0.mk (Kd.N_lower ho41 (below_size (qB HB.out))); replace HB := Aside0.mk (below_step (qB HB.out) hb); clear hb ho41; obtain ⟨Ao42, co42, eo42⟩ := Kd.N_slice HO130.out; subst eo42) | ((with_reducible refine gate_callee (f := 17) rfl ?_); refine goesL_ (some 43) rfl rfl Try.func17 (by kernel_rfl) rfl #[.slice Ao42 y128.length co42] rfl qq1 ?_; (with_reducible refine (turns_Passes.calls k _ _ y128 t131 t132 _ ?side1 ?side2 A4.out).mono ?_); (case side1 => repeat (first | exact (Kd.N_reads' HO130.out).2.2 | (with_reducible refine Kd.C_alloc ?_ _) | (with_reducible refine Kd.C_drewN ?_ _) | (with_reducible refine Kd.C_drew ?_))); (case side2 => exact (Kd.N_reads' HO130.out).2.1); rintro e w43 ⟨v133, rfl, ho0, hb⟩; refine ⟨_, rfl, ?_⟩; replace HO103 := Aside0.mk (Kd.N_elder' (qN HO103.out) (Kd.R_base ho0) hb); replace HO116 := Aside0.mk (Kd.N_elder' (qN HO116.out) (Kd.R_base ho0) hb); replace HO123 := Aside0.mk (Kd.N_elder' (qN HO123.out) (Kd.R_base ho0) hb); replace HO130 := Aside0.mk (Kd.N_elder' (qN HO130.out) (Kd.R_base ho0) hb); have HO134 := Aside0.mk (Kd.R_lower (Kd.R_new' (Kd.R_new' (Kd.R_new' ho0 (Kd.R_lt (qR HO107.out))) (Kd.R_lt (qR HO120.out))) (Kd.R_lt (qR HO127.out))) (below_size (qB HB.out))); replace HO107 := Aside0.mk (Kd.R_elder' (qR HO107.out) (Kd.R_base ho0) hb); replace HO120 := Aside0.mk (Kd.R_elder' (qR HO120.out) (Kd.R_base ho0) hb); replace HO127 := Aside0.mk (Kd.R_elder' (qR HO127.out) (Kd.R_base ho0) hb); replace HB := Aside0.mk (below_step (qB HB.out) hb); (try clear hb); (try clear hb2); (try clear hk); (try clear hi); (try clear ho0)) | ((with_reducible refine gate_dst (N := 49) rfl ?_); (try (refine gate_guard (by rfl) ?_; dsimp only)); refine Kd.N_lit k38 _ 38 ?hg (N' := 49) ?hd (xs := ([(⟨false, 0, ([] : List Int), false, false, false, false, 0⟩ : S38), (⟨false, 1, ([] : List Int), false, false, false, false, 0⟩ : S38)] : List (S38))) (inner := [.bool false, .int .i64 0, .slice none 0 0, .bool false, .bool false, .bool false, .bool false, .int .i64 0, .bool false, .int .i64 1, .slice none 0 0, .bool false, .bool false, .bool false, .bool false, .int .i64 0]) (ok := (fun k_ => some k_ ≠ (.slice Ao24 y101.length co24 : Value).ownBlock ∧ some k_ ≠ (v106 : Value).ownBlock ∧ some k_ ≠ (.slice Ao34 y114.length co34 : Value).ownBlock ∧ some k_ ≠ (v119 : Value).ownBlock ∧ some k_ ≠ (.slice Ao38 y121.length co38 : Value).ownBlock ∧ some k_ ≠ (v126 : Value).ownBlock ∧ some k_ ≠ (.slice Ao42 y128.length co42 : Value).ownBlock ∧ some k_ ≠ (v133 : Value).ownBlock)) (okp := (fun k_ => some k_ ≠ (.slice Ao24 y101.length co24 : Value).ownBlock ∧ some k_ ≠ (v106 : Value).ownBlock ∧ some k_ ≠ (.slice Ao34 y114.length co34 : Value).ownBlock ∧ some k_ ≠ (v119 : Value).ownBlock ∧ some k_ ≠ (.slice Ao38 y121.length co38 : Value).ownBlock ∧ some k_ ≠ (v126 : Value).ownBlock ∧ some k_ ≠ (.slice Ao42 y128.length co42 : Value).ownBlock ∧ some k_ ≠ (v133 : Value).ownBlock)) ?hr ?hp (fun _ hk => hk) ((show ∀ k_, w43.heap.size ≤ k_ → (fun k_ => some k_ ≠ (.slice Ao24 y101.length co24 : Value).ownBlock ∧ some k_ ≠ (v106 : Value).ownBlock ∧ some k_ ≠ (.slice Ao34 y114.length co34 : Value).ownBlock ∧ some k_ ≠ (v119 : Value).ownBlock ∧ some k_ ≠ (.slice Ao38 y121.length co38 : Value).ownBlock ∧ some k_ ≠ (v126 : Value).ownBlock ∧ some k_ ≠ (.slice Ao42 y128.length co42 : Value).ownBlock ∧ some k_ ≠ (v133 : Value).ownBlock) k_ from fun k_ hk => ⟨Kd.fresh' (Kd.N_lt (qN HO103.out)) k_ hk, Kd.fresh' (Kd.R_lt (qR HO107.out)) k_ hk, Kd.fresh' (Kd.N_lt (qN HO116.out)) k_ hk, Kd.fresh' (Kd.R_lt (qR HO120.out)) k_ hk, Kd.fresh' (Kd.N_lt (qN HO123.out)) k_ hk, Kd.fresh' (Kd.R_lt (qR HO127.out)) k_ hk, Kd.fresh' (Kd.N_lt (qN HO130.out)) k_ hk, Kd.fresh' (Kd.R_lt (qR HO134.out)) k_ hk⟩) _ (Nat.le_refl _)) (Below.refl _ _) (Nat.le_refl _) (by simp) ?_; (case hd => rfl); (case hg => rfl); (case hr => exact qqj); (case hp => exact (Reps.c8 (show Kd.FK k38 _ _ (⟨false, 0, ([] : List Int), false, false, false, false, 0⟩ : S38) [.bool false, .int .i64 0, .slice none 0 0, .bool false, .bool false, .bool false, .bool false, .int .i64 0] from (k38_mkF _ _ (⟨false, 0, ([] : List Int), false, false, false, false, 0⟩ : S38) (Nat.le_refl _) (Kd.F_nil _ _ _))) (Reps.c8 (show Kd.FK k38 _ _ (⟨false, 1, ([] : List Int), false, false, false, false, 0⟩ : S38) [.bool false, .int .i64 1, .slice none 0 0, .bool false, .bool false, .bool false, .bool false, .int .i64 0] from (k38_mkF _ _ (⟨false, 1, ([] : List Int), false, false, false, false, 0⟩ : S38) (Nat.le_refl _) (Kd.F_nil _ _ _))) (Reps.none _ _)))); intro v136 w44 ho45 hb hg_ hnew_; clear hg_ hnew_; (first | rw [← Ny135.out] at ho45 | (simp only [Int.reduceToNat] at ho45; rw [← Ny135.out] at ho45)); replace HO103 := Aside0.mk (Kd.N_elder' (qN HO103.out) (Kd.N_base ho45) hb); replace HO107 := Aside0.mk (Kd.R_below (qR HO107.out) hb); replace HO116 := Aside0.mk (Kd.N_elder' (qN HO116.out) (Kd.N_base ho45) hb); replace HO120 := Aside0.mk (Kd.R_below (qR HO120.out) hb); replace HO123 := Aside0.mk (Kd.N_elder' (qN HO123.out) (Kd.N_base ho45) hb); replace HO127 := Aside0.mk (Kd.R_below (qR HO127.out) hb); replace HO130 := Aside0.mk (Kd.N_elder' (qN HO130.out) (Kd.N_base ho45) hb); replace HO134 := Aside0.mk (Kd.R_below (qR HO134.out) hb); have HO137 := Aside0.mk (Kd.N_lower ho45 (below_size (qB HB.out))); replace HB := Aside0.mk (below_step (qB HB.out) hb); clear hb ho45; obtain ⟨Ao46, co46, eo46⟩ := Kd.N_slice HO137.out; subst eo46) | ((with_reducible refine gate_callee (f := 13) rfl ?_); refine goesL_ (some 50) rfl rfl Try.func13 (by kernel_rfl) rfl #[.slice Ao46 y135.length co46] rfl qq1 ?_; (with_reducible refine (turns_Check.calls k _ _ y135 t138 t139 _ ?side1 ?side2 A5.out).mono ?_); (case side1 => repeat (first | exact (Kd.N_reads' HO137.out).2.2 | (with_reducible refine Kd.C_alloc ?_ _) | (with_reducible refine Kd.C_drewN ?_ _) | (with_reducible refine Kd.C_drew ?_))); (case side2 => exact (Kd.N_reads' HO137.out).2.1); rintro e w47 ⟨rfl, hb⟩; refine ⟨_, rfl, ?_⟩; replace HO103 := Aside0.mk (Kd.N_below (qN HO103.out) hb); replace HO107 := Aside0.mk (Kd.R_below (qR HO107.out) hb); replace HO116 := Aside0.mk (Kd.N_below (qN HO116.out) hb); replace HO120 := Aside0.mk (Kd.R_below (qR HO120.out) hb); replace HO123 := Aside0.mk (Kd.N_below (qN HO123.out) hb); replace HO127 := Aside0.mk (Kd.R_below (qR HO127.out) hb); replace HO130 := Aside0.mk (Kd.N_below (qN HO130.out) hb); replace HO134 := Aside0.mk (Kd.R_below (qR HO134.out) hb); replace HO137 := Aside0.mk (Kd.N_below (qN HO137.out) hb); replace HB := Aside0.mk (below_step (qB HB.out) hb); (try clear hb); (try clear hb2); (try clear hk); (try clear hi)) | ((with_reducible refine gate_dst (N := 56) rfl ?_); (try (refine gate_guard (by rfl) ?_; dsimp only)); refine Kd.N_lit k38 _ 38 ?hg (N' := 56) ?hd (xs := ([(⟨false, 0, ([] : List Int), false, false, false, false, 0⟩ : S38), (⟨false, 0, ([] : List Int), false, false, false, false, 4⟩ : S38)] : List (S38))) (inner := [.bool false, .int .i64 0, .slice none 0 0, .bool false, .bool false, .bool false, .bool false, .int .i64 0, .bool false, .int .i64 0, .slice none 0 0, .bool false, .bool false, .bool false, .bool false, .int .i64 4]) (ok := (fun k_ => some k_ ≠ (.slice Ao24 y101.length co24 : Value).ownBlock ∧ some k_ ≠ (v106 : Value).ownBlock ∧ some k_ ≠ (.slice Ao34 y114.length co34 : Value).ownBlock ∧ some k_ ≠ (v119 : Value).ownBlock ∧ some k_ ≠ (.slice Ao38 y121.length co38 : Value).ownBlock ∧ some k_ ≠ (v126 : Value).ownBlock ∧ some k_ ≠ (.slice Ao42 y128.length co42 : Value).ownBlock ∧ some k_ ≠ (v133 : Value).ownBlock ∧ some k_ ≠ (.slice Ao46 y135.length co46 : Value).ownBlock)) (okp := (fun k_ => some k_ ≠ (.slice Ao24 y101.length co24 : Value).ownBlock ∧ some k_ ≠ (v106 : Value).ownBlock ∧ some k_ ≠ (.slice Ao34 y114.length co34 : Value).ownBlock ∧ some k_ ≠ (v119 : Value).ownBlock ∧ some k_ ≠ (.slice Ao38 y121.length co38 : Value).ownBlock ∧ some k_ ≠ (v126 : Value).ownBlock ∧ some k_ ≠ (.slice Ao42 y128.length co42 : Value).ownBlock ∧ some k_ ≠ (v133 : Value).ownBlock ∧ some k_ ≠ (.slice Ao46 y135.length co46 : Value).ownBlock)) ?hr ?hp (fun _ hk => hk) ((show ∀ k_, w47.heap.size ≤ k_ → (fun k_ => some k_ ≠ (.slice Ao24 y101.length co24 : Value).ownBlock ∧ some k_ ≠ (v106 : Value).ownBlock ∧ some k_ ≠ (.slice Ao34 y114.length co34 : Value).ownBlock ∧ some k_ ≠ (v119 : Value).ownBlock ∧ some k_ ≠ (.slice Ao38 y121.length co38 : Value).ownBlock ∧ some k_ ≠ (v126 : Value).ownBlock ∧ some k_ ≠ (.slice Ao42 y128.length co42 : Value).ownBlock ∧ some k_ ≠ (v133 : Value).ownBlock ∧ some k_ ≠ (.slice Ao46 y135.length co46 : Value).ownBlock) k_ from fun k_ hk => ⟨Kd.fresh' (Kd.N_lt (qN HO103.out)) k_ hk, Kd.fresh' (Kd.R_lt (qR HO107.out)) k_ hk, Kd.fresh' (Kd.N_lt (qN HO116.out)) k_ hk, Kd.fresh' (Kd.R_lt (qR HO120.out)) k_ hk, Kd.fresh' (Kd.N_lt (qN HO123.out)) k_ hk, Kd.fresh' (Kd.R_lt (qR HO127.out)) k_ hk, Kd.fresh' (Kd.N_lt (qN HO130.out)) k_ hk, Kd.fresh' (Kd.R_lt (qR HO134.out)) k_ hk, Kd.fresh' (Kd.N_lt (qN HO137.out)) k_ hk⟩) _ (Nat.le_refl _)) (Below.refl _ _) (Nat.le_refl _) (by simp) ?_; (case hd => rfl); (case hg => rfl); (case hr => exact qqj); (case hp => exact (Reps.c8 (show Kd.FK k38 _ _ (⟨false, 0, ([] : List Int), false, false, false, false, 0⟩ : S38) [.bool false, .int .i64 0, .slice none 0 0, .bool false, .bool false, .bool false, .bool false, .int .i64 0] from (k38_mkF _ _ (⟨false, 0, ([] : List Int), false, false, false, false, 0⟩ : S38) (Nat.le_refl _) (Kd.F_nil _ _ _))) (Reps.c8 (show Kd.FK k38 _ _ (⟨false, 0, ([] : List Int), false, false, false, false, 4⟩ : S38) [.bool false, .int .i64 0, .slice none 0 0, .bool false, .bool false, .bool false, .bool false, .int .i64 4] from (k38_mkF _ _ (⟨false, 0, ([] : List Int), false, false, false, false, 4⟩ : S38) (Nat.le_refl _) (Kd.F_nil _ _ _))) (Reps.none _ _)))); intro v141 w48 ho49 hb hg_ hnew_; clear hg_ hnew_; (first | rw [← Ny140.out] at ho49 | (simp only [Int.reduceToNat] at ho49; rw [← Ny140.out] at ho49)); replace HO103 := Aside0.mk (Kd.N_elder' (qN HO103.out) (Kd.N_base ho49) hb); replace HO107 := Aside0.mk (Kd.R_below (qR HO107.out) hb); replace HO116 := Aside0.mk (Kd.N_elder' (qN HO116.out) (Kd.N_base ho49) hb); replace HO120 := Aside0.mk (Kd.R_below (qR HO120.out) hb); replace HO123 := Aside0.mk (Kd.N_elder' (qN HO123.out) (Kd.N_base ho49) hb); replace HO127 := Aside0.mk (Kd.R_below (qR HO127.out) hb); replace HO130 := Aside0.mk (Kd.N_elder' (qN HO130.out) (Kd.N_base ho49) hb); replace HO134 := Aside0.mk (Kd.R_below (qR HO134.out) hb); replace HO137 := Aside0.mk (Kd.N_elder' (qN HO137.out) (Kd.N_base ho49) hb); have HO142 := Aside0.mk (Kd.N_lower ho49 (below_size (qB HB.out))); replace HB := Aside0.mk (below_step (qB HB.out) hb); clear hb ho49; obtain ⟨Ao50, co50, eo50⟩ := Kd.N_slice HO142.out; subst eo50) | ((with_reducible refine gate_callee (f := 13) rfl ?_); refine goesL_ (some 57) rfl rfl Try.func13 (by kernel_rfl) rfl #[.slice Ao50 y140.length co50] rfl qq1 ?_; (with_reducible refine (turns_Check.calls k _ _ y140 t143 t144 _ ?side1 ?side2 A6.out).mono ?_); (case side1 => repeat (first | exact (Kd.N_reads' HO142.out).2.2 | (with_reducible refine Kd.C_alloc ?_ _) | (with_reducible refine Kd.C_drewN ?_ _) | (with_reducible refine Kd.C_drew ?_))); (case side2 => exact (Kd.N_reads' HO142.out).2.1); rintro e w51 ⟨rfl, hb⟩; refine ⟨_, rfl, ?_⟩; replace HO103 := Aside0.mk (Kd.N_below (qN HO103.out) hb); replace HO107 := Aside0.mk (Kd.R_below (qR HO107.out) hb); replace HO116 := Aside0.mk (Kd.N_below (qN HO116.out) hb); replace HO120 := Aside0.mk (Kd.R_below (qR HO120.out) hb); replace HO123 := Aside0.mk (Kd.N_below (qN HO123.out) hb); replace HO127 := Aside0.mk (Kd.R_below (qR HO127.out) hb); replace HO130 := Aside0.mk (Kd.N_below (qN HO130.out) hb); replace HO134 := Aside0.mk (Kd.R_below (qR HO134.out) hb); replace HO137 := Aside0.mk (Kd.N_below (qN HO137.out) hb); replace HO142 := Aside0.mk (Kd.N_below (qN HO142.out) hb); replace HB := Aside0.mk (below_step (qB HB.out) hb); (try clear hb); (try clear hb2); (try clear hk); (try clear hi)) | ((with_reducible refine gate_dst (N := 64) rfl ?_); (try (refine gate_guard (by rfl) ?_; dsimp only)); refine Kd.R_lit (Kd.int .i64) _ 3 ?hg (N := 64) ?hd (xs := ([0, 1, 0, 1, 2] : List Int)) (inner := [.int .i64 0, .int .i64 1, .int .i64 0, .int .i64 1, .int .i64 2]) (ok := fun _ => True) (okp := fun _ => True) ?hr ?hp (fun _ hk => hk) trivial (Below.refl _ _) (Nat.le_refl _) (by simp) ?_; (case hd => rfl); (case hg => rfl); (case hr => exact qqj); (case hp => exact (Reps.one (show Kd.M (Kd.int .i64) _ _ _ 0 [.int .i64 0] from rfl) (Reps.one (show Kd.M (Kd.int .i64) _ _ _ 1 [.int .i64 1] from rfl) (Reps.one (show Kd.M (Kd.int .i64) _ _ _ 0 [.int .i64 0] from rfl) (Reps.one (show Kd.M (Kd.int .i64) _ _ _ 1 [.int .i64 1] from rfl) (Reps.one (show Kd.M (Kd.int .i64) _ _ _ 2 [.int .i64 2] from rfl) (Reps.none _ _))))))); intro v146 w52 ho53 hb hg_ hnew_; clear hg_ hnew_; (first | rw [← Ny145.out] at ho53 | (simp only [Int.reduceToNat] at ho53; rw [← Ny145.out] at ho53)); replace HO103 := Aside0.mk (Kd.N_elder' (qN HO103.out) (Kd.R_base ho53) hb); replace HO116 := Aside0.mk (Kd.N_elder' (qN HO116.out) (Kd.R_base ho53) hb); replace HO123 := Aside0.mk (Kd.N_elder' (qN HO123.out) (Kd.R_base ho53) hb); replace HO130 := Aside0.mk (Kd.N_elder' (qN HO130.out) (Kd.R_base ho53) hb); replace HO137 := Aside0.mk (Kd.N_elder' (qN HO137.out) (Kd.R_base ho53) hb); replace HO142 := Aside0.mk (Kd.N_elder' (qN HO142.out) (Kd.R_base ho53) hb); have HO147 := Aside0.mk (Kd.R_lower (Kd.R_new' (Kd.R_new' (Kd.R_new' (Kd.R_new' ho53 (Kd.R_lt (qR HO107.out))) (Kd.R_lt (qR HO120.out))) (Kd.R_lt (qR HO127.out))) (Kd.R_lt (qR HO134.out))) (below_size (qB HB.out))); replace HO107 := Aside0.mk (Kd.R_elder' (qR HO107.out) (Kd.R_base ho53) hb); replace HO120 := Aside0.mk (Kd.R_elder' (qR HO120.out) (Kd.R_base ho53) hb); replace HO127 := Aside0.mk (Kd.R_elder' (qR HO127.out) (Kd.R_base ho53) hb); replace HO134 := Aside0.mk (Kd.R_elder' (qR HO134.out) (Kd.R_base ho53) hb); replace HB := Aside0.mk (below_step (qB HB.out) hb); clear hb ho53; obtain ⟨Ao54, co54, eo54⟩ := Kd.R_slice HO107.out; subst eo54; obtain ⟨Ao55, co55, eo55⟩ := Kd.R_slice HO147.out; subst eo55) | (go_at_call 19; (with_reducible refine (partitalaw10_ints.calls k _ _ t104 _ _ y145 true _ ?side1 ?side2 ?side3 ?side4 A8.out).mono ?_); (case side1 => repeat (first | exact (Kd.R_reads' HO107.out).2.2 | (with_reducible refine Kd.C_alloc ?_ _) | (with_reducible refine Kd.C_drewN ?_ _) | (with_reducible refine Kd.C_drew ?_))); (case side2 => exact (Kd.R_reads' HO107.out).2.1); (case side3 => repeat (first | exact (Kd.R_reads' HO147.out).2.2 | (with_reducible refine Kd.C_alloc ?_ _) | (with_reducible refine Kd.C_drewN ?_ _) | (with_reducible refine Kd.C_drew ?_))); (case side4 => exact (Kd.R_reads' HO147.out).2.1); rintro e w' ⟨rfl, ⟨nd, rfl⟩⟩) | ((with_reducible refine gate_dst (N := 73) rfl ?_); (try (refine gate_guard (by rfl) ?_; dsimp only)); refine Kd.R_lit (Kd.int .i64) _ 3 ?hg (N := 73) ?hd (xs := ([0, 1, 0, 2] : List Int)) (inner := [.int .i64 0, .int .i64 1, .int .i64 0, .int .i64 2]) (ok := fun _ => True) (okp := fun _ => True) ?hr ?hp (fun _ hk => hk) trivial (Below.refl _ _) (Nat.le_refl _) (by simp) ?_; (case hd => rfl); (case hg => rfl); (case hr => exact qqj); (case hp => exact (Reps.one (show Kd.M (Kd.int .i64) _ _ _ 0 [.int .i64 0] from rfl) (Reps.one (show Kd.M (Kd.int .i64) _ _ _ 1 [.int .i64 1] from rfl) (Reps.one (show Kd.M (Kd.int .i64) _ _ _ 0 [.int .i64 0] from rfl) (Reps.one (show Kd.M (Kd.int .i64) _ _ _ 2 [.int .i64 2] from rfl) (Reps.none _ _)))))); intro v150 w56 ho57 hb hg_ hnew_; clear hg_ hnew_; (first | rw [← Ny149.out] at ho57 | (simp only [Int.reduceToNat] at ho57; rw [← Ny149.out] at ho57)); replace HO103 := Aside0.mk (Kd.N_elder' (qN HO103.out) (Kd.R_base ho57) hb); replace HO116 := Aside0.mk (Kd.N_elder' (qN HO116.out) (Kd.R_base ho57) hb); replace HO123 := Aside0.mk (Kd.N_elder' (qN HO123.out) (Kd.R_base ho57) hb); replace HO130 := Aside0.mk (Kd.N_elder' (qN HO130.out) (Kd.R_base ho57) hb); replace HO137 := Aside0.mk (Kd.N_elder' (qN HO137.out) (Kd.R_base ho57) hb); replace HO142 := Aside0.mk (Kd.N_elder' (qN HO142.out) (Kd.R_base ho57) hb); have HO151 := Aside0.mk (Kd.R_lower (Kd.R_new' (Kd.R_new' (Kd.R_new' (Kd.R_new' (Kd.R_new' ho57 (Kd.R_lt (qR HO107.out))) (Kd.R_lt (qR HO120.out))) (Kd.R_lt (qR HO127.out))) (Kd.R_lt (qR HO134.out))) (Kd.R_lt (qR HO147.out))) (below_size (qB HB.out))); replace HO107 := Aside0.mk (Kd.R_elder' (qR HO107.out) (Kd.R_base ho57) hb); replace HO120 := Aside0.mk (Kd.R_elder' (qR HO120.out) (Kd.R_base ho57) hb); replace HO127 := Aside0.mk (Kd.R_elder' (qR HO127.out) (Kd.R_base ho57) hb); replace HO134 := Aside0.mk (Kd.R_elder' (qR HO134.out) (Kd.R_base ho57) hb); replace HO147 := Aside0.mk (Kd.R_elder' (qR HO147.out) (Kd.R_base ho57) hb); replace HB := Aside0.mk (below_step (qB HB.out) hb); clear hb ho57; obtain ⟨Ao58, co58, eo58⟩ := Kd.R_slice HO120.out; subst eo58; obtain ⟨Ao59, co59, eo59⟩ := Kd.R_slice HO151.out; subst eo59) | (go_at_call 19; (with_reducible refine (partitalaw10_ints.calls k _ _ t117 _ _ y149 true _ ?side1 ?side2 ?side3 ?side4 A11.out).mono ?_); (case side1 => repeat (first | exact (Kd.R_reads' HO120.out).2.2 | (with_reducible refine Kd.C_alloc ?_ _) | (with_reducible refine Kd.C_drewN ?_ _) | (with_reducible refine Kd.C_drew ?_))); (case side2 => exact (Kd.R_reads' HO120.out).2.1); (case side3 => repeat (first | exact (Kd.R_reads' HO151.out).2.2 | (with_reducible refine Kd.C_alloc ?_ _) | (with_reducible refine Kd.C_drewN ?_ _) | (with_reducible refine Kd.C_drew ?_))); (case side4 => exact (Kd.R_reads' HO151.out).2.1); rintro e w' ⟨rfl, ⟨nd, rfl⟩⟩) | ((with_reducible refine gate_dst (N := 82) rfl ?_); (try (refine gate_guard (by rfl) ?_; dsimp only)); refine Kd.R_lit (Kd.int .i64) _ 3 ?hg (N := 82) ?hd (xs := ([0, 1, 0] : List Int)) (inner := [.int .i64 0, .int .i64 1, .int .i64 0]) (ok := fun _ => True) (okp := fun _ => True) ?hr ?hp (fun _ hk => hk) trivial (Below.refl _ _) (Nat.le_refl _) (by simp) ?_; (case hd => rfl); (case hg => rfl); (case hr => exact qqj); (case hp => exact (Reps.one (show Kd.M (Kd.int .i64) _ _ _ 0 [.int .i64 0] from rfl) (Reps.one (show Kd.M (Kd.int .i64) _ _ _ 1 [.int .i64 1] from rfl) (Reps.one (show Kd.M (Kd.int .i64) _ _ _ 0 [.int .i64 0] from rfl) (Reps.none _ _))))); intro v154 w60 ho61 hb hg_ hnew_; clear hg_ hnew_; (first | rw [← Ny153.out] at ho61 | (simp only [Int.reduceToNat] at ho61; rw [← Ny153.out] at ho61)); replace HO103 := Aside0.mk (Kd.N_elder' (qN HO103.out) (Kd.R_base ho61) hb); replace HO116 := Aside0.mk (Kd.N_elder' (qN HO116.out) (Kd.R_base ho61) hb); replace HO123 := Aside0.mk (Kd.N_elder' (qN HO123.out) (Kd.R_base ho61) hb); replace HO130 := Aside0.mk (Kd.N_elder' (qN HO130.out) (Kd.R_base ho61) hb); replace HO137 := Aside0.mk (Kd.N_elder' (qN HO137.out) (Kd.R_base ho61) hb); replace HO142 := Aside0.mk (Kd.N_elder' (qN HO142.out) (Kd.R_base ho61) hb); have HO155 := Aside0.mk (Kd.R_lower (Kd.R_new' (Kd.R_new' (Kd.R_new' (Kd.R_new' (Kd.R_new' (Kd.R_new' ho61 (Kd.R_lt (qR HO107.out))) (Kd.R_lt (qR HO120.out))) (Kd.R_lt (qR HO127.out))) (Kd.R_lt (qR HO134.out))) (Kd.R_lt (qR HO147.out))) (Kd.R_lt (qR HO151.out))) (below_size (qB HB.out))); replace HO107 := Aside0.mk (Kd.R_elder' (qR HO107.out) (Kd.R_base ho61) hb); replace HO120 := Aside0.mk (Kd.R_elder' (qR HO120.out) (Kd.R_base ho61) hb); replace HO127 := Aside0.mk (Kd.R_elder' (qR HO127.out) (Kd.R_base ho61) hb); replace HO134 := Aside0.mk (Kd.R_elder' (qR HO134.out) (Kd.R_base ho61) hb); replace HO147 := Aside0.mk (Kd.R_elder' (qR HO147.out) (Kd.R_base ho61) hb); replace HO151 := Aside0.mk (Kd.R_elder' (qR HO151.out) (Kd.R_base ho61) hb); replace HB := Aside0.mk (below_step (qB HB.out) hb); clear hb ho61; obtain ⟨Ao62, co62, eo62⟩ := Kd.R_slice HO127.out; subst eo62; obtain ⟨Ao63, co63, eo63⟩ := Kd.R_slice HO155.out; subst eo63) | (go_at_call 19; (with_reducible refine (partitalaw10_ints.calls k _ _ t124 _ _ y153 true _ ?side1 ?side2 ?side3 ?side4 A14.out).mono ?_); (case side1 => repeat (first | exact (Kd.R_reads' HO127.out).2.2 | (with_reducible refine Kd.C_alloc ?_ _) | (with_reducible refine Kd.C_drewN ?_ _) | (with_reducible refine Kd.C_drew ?_))); (case side2 => exact (Kd.R_reads' HO127.out).2.1); (case side3 => repeat (first | exact (Kd.R_reads' HO155.out).2.2 | (with_reducible refine Kd.C_alloc ?_ _) | (with_reducible refine Kd.C_drewN ?_ _) | (with_reducible refine Kd.C_drew ?_))); (case side4 => exact (Kd.R_reads' HO155.out).2.1); rintro e w' ⟨rfl, ⟨nd, rfl⟩⟩) | ((with_reducible refine gate_dst (N := 91) rfl ?_); (try (refine gate_guard (by rfl) ?_; dsimp only)); refine Kd.R_lit (Kd.int .i64) _ 3 ?hg (N := 91) ?hd (xs := ([1, 1, 2, 2, 1] : List Int)) (inner := [.int .i64 1, .int .i64 1, .int .i64 2, .int .i64 2, .int .i64 1]) (ok := fun _ => True) (okp := fun _ => True) ?hr ?hp (fun _ hk => hk) trivial (Below.refl _ _) (Nat.le_refl _) (by simp) ?_; (case hd => rfl); (case hg => rfl); (case hr => exact qqj); (case hp => exact (Reps.one (show Kd.M (Kd.int .i64) _ _ _ 1 [.int .i64 1] from rfl) (Reps.one (show Kd.M (Kd.int .i64) _ _ _ 1 [.int .i64 1] from rfl) (Reps.one (show Kd.M (Kd.int .i64) _ _ _ 2 [.int .i64 2] from rfl) (Reps.one (show Kd.M (Kd.int .i64) _ _ _ 2 [.int .i64 2] from rfl) (Reps.one (show Kd.M (Kd.int .i64) _ _ _ 1 [.int .i64 1] from rfl) (Reps.none _ _))))))); intro v158 w64 ho65 hb hg_ hnew_; clear hg_ hnew_; (first | rw [← Ny157.out] at ho65 | (simp only [Int.reduceToNat] at ho65; rw [← Ny157.out] at ho65)); replace HO103 := Aside0.mk (Kd.N_elder' (qN HO103.out) (Kd.R_base ho65) hb); replace HO116 := Aside0.mk (Kd.N_elder' (qN HO116.out) (Kd.R_base ho65) hb); replace HO123 := Aside0.mk (Kd.N_elder' (qN HO123.out) (Kd.R_base ho65) hb); replace HO130 := Aside0.mk (Kd.N_elder' (qN HO130.out) (Kd.R_base ho65) hb); replace HO137 := Aside0.mk (Kd.N_elder' (qN HO137.out) (Kd.R_base ho65) hb); replace HO142 := Aside0.mk (Kd.N_elder' (qN HO142.out) (Kd.R_base ho65) hb); have HO159 := Aside0.mk (Kd.R_lower (Kd.R_new' (Kd.R_new' (Kd.R_new' (Kd.R_new' (Kd.R_new' (Kd.R_new' (Kd.R_new' ho65 (Kd.R_lt (qR HO107.out))) (Kd.R_lt (qR HO120.out))) (Kd.R_lt (qR HO127.out))) (Kd.R_lt (qR HO134.out))) (Kd.R_lt (qR HO147.out))) (Kd.R_lt (qR HO151.out))) (Kd.R_lt (qR HO155.out))) (below_size (qB HB.out))); replace HO107 := Aside0.mk (Kd.R_elder' (qR HO107.out) (Kd.R_base ho65) hb); replace HO120 := Aside0.mk (Kd.R_elder' (qR HO120.out) (Kd.R_base ho65) hb); replace HO127 := Aside0.mk (Kd.R_elder' (qR HO127.out) (Kd.R_base ho65) hb); replace HO134 := Aside0.mk (Kd.R_elder' (qR HO134.out) (Kd.R_base ho65) hb); replace HO147 := Aside0.mk (Kd.R_elder' (qR HO147.out) (Kd.R_base ho65) hb); replace HO151 := Aside0.mk (Kd.R_elder' (qR HO151.out) (Kd.R_base ho65) hb); replace HO155 := Aside0.mk (Kd.R_elder' (qR HO155.out) (Kd.R_base ho65) hb); replace HB := Aside0.mk (below_step (qB HB.out) hb); clear hb ho65; obtain ⟨Ao66, co66, eo66⟩ := Kd.R_slice HO134.out; subst eo66; obtain ⟨Ao67, co67, eo67⟩ := Kd.R_slice HO159.out; subst eo67) | (go_at_call 19; (with_reducible refine (partitalaw10_ints.calls k _ _ t131 _ _ y157 true _ ?side1 ?side2 ?side3 ?side4 A17.out).mono ?_); (case side1 => repeat (first | exact (Kd.R_reads' HO134.out).2.2 | (with_reducible refine Kd.C_alloc ?_ _) | (with_reducible refine Kd.C_drewN ?_ _) | (with_reducible refine Kd.C_drew ?_))); (case side2 => exact (Kd.R_reads' HO134.out).2.1); (case side3 => repeat (first | exact (Kd.R_reads' HO159.out).2.2 | (with_reducible refine Kd.C_alloc ?_ _) | (with_reducible refine Kd.C_drewN ?_ _) | (with_reducible refine Kd.C_drew ?_))); (case side4 => exact (Kd.R_reads' HO159.out).2.1); rintro e w' ⟨rfl, ⟨nd, rfl⟩⟩))
  go_ret
  exact ⟨qq2, qB HB.out⟩
mutual
def partitalaw10_Turn_turn.j0 : Nat → Int → Bool → Int → Int → Int → Bool → Int → Bool → Bool → Bool → Bool → Int → Option (Bool × Int × List Int × Bool × Bool × Bool × Bool × Int)
  | 0, _, _, _, _, _, _, _, _, _, _, _, _ => none
  | k + 1, x7, x8, x102000, x102001, x102002, x104000, x104001, x104003, x104004, x104005, x104006, x104007 => if x8 = true then (some (true, x104001, ([] : List Int), x104003, x104004, x104005, x104006, x104007)) else (if x7 = 2 then (partitalaw10_Turn_turn.j1 k x7 (x7 == 2) x102000 x102001 x102002 x104000 x104001 x104003 x104004 x104005 x104006 x104007) else (partitalaw10_Turn_turn.j1 k x7 (x7 == 3) x102000 x102001 x102002 x104000 x104001 x104003 x104004 x104005 x104006 x104007))
def partitalaw10_Turn_turn.j1 : Nat → Int → Bool → Int → Int → Int → Bool → Int → Bool → Bool → Bool → Bool → Int → Option (Bool × Int × List Int × Bool × Bool × Bool × Bool × Int)
  | 0, _, _, _, _, _, _, _, _, _, _, _, _ => none
  | k + 1, x7, x12, x102000, x102001, x102002, x104000, x104001, x104003, x104004, x104005, x104006, x104007 => if x12 = true then (some (x104000, wrap64 (2 + (wrap64 (Int.tmod x102001 3))), ([] : List Int), x104003, x104004, x104005, x104006, x104007)) else (if x7 = 4 then (some (x104000, wrap64 (2 + (wrap64 (Int.tmod x102002 2))), (([wrap64 (1 + (wrap64 (Int.tmod x102001 3)))] : List Int)), x104003, x104004, x104005, x104006, x104007)) else (if x7 = 5 then (some (x104000, x104001, (([wrap64 (1 + (wrap64 (Int.tmod x102001 3)))] : List Int)), x104003, x104004, x104005, x104006, x104007)) else (if x7 = 6 then (some (x104000, 3, (([1, wrap64 (2 + (wrap64 (Int.tmod x102001 2)))] : List Int)), x104003, x104004, x104005, x104006, x104007)) else (if x7 = 7 then (some (x104000, x104001, ([] : List Int), x104003, x104004, x104005, true, x104007)) else (if x7 = 8 then (some (x104000, x104001, ([] : List Int), x104003, x104004, true, x104006, x104007)) else (if x7 = 9 then (some (true, wrap64 (2 + (wrap64 (Int.tmod x102001 8))), ([] : List Int), x104003, x104004, x104005, x104006, x104007)) else (some (x104000, x104001, ([] : List Int), x104003, x104004, x104005, x104006, x104007))))))))
end
def partitalaw10_Turn_turn.f (k : Nat) (a0_0 : Int) (a0_1 : Int) (a0_2 : Int) : Option (Bool × Int × List Int × Bool × Bool × Bool × Bool × Int) := if (Int.tmod a0_0 16) = 0 then (partitalaw10_Turn_turn.j0 k (Int.tmod a0_0 16) ((Int.tmod a0_0 16) == 0) a0_0 a0_1 a0_2 false 0 false false false false 0) else (partitalaw10_Turn_turn.j0 k (Int.tmod a0_0 16) ((Int.tmod a0_0 16) == 1) a0_0 a0_1 a0_2 false 0 false false false false 0)
theorem partitalaw10_Turn_turn.mono_l : ∀ k, (∀ y0 y1 y2 y3 y4 y5 y6 y7 y8 y9 y10 y11, LeO (partitalaw10_Turn_turn.j0 k y0 y1 y2 y3 y4 y5 y6 y7 y8 y9 y10 y11) (partitalaw10_Turn_turn.j0 (k + 1) y0 y1 y2 y3 y4 y5 y6 y7 y8 y9 y10 y11)) ∧ (∀ y0 y1 y2 y3 y4 y5 y6 y7 y8 y9 y10 y11, LeO (partitalaw10_Turn_turn.j1 k y0 y1 y2 y3 y4 y5 y6 y7 y8 y9 y10 y11) (partitalaw10_Turn_turn.j1 (k + 1) y0 y1 y2 y3 y4 y5 y6 y7 y8 y9 y10 y11))
  | 0 => ⟨fun _ _ _ _ _ _ _ _ _ _ _ _ r h => by simp [partitalaw10_Turn_turn.j0] at h, fun _ _ _ _ _ _ _ _ _ _ _ _ r h => by simp [partitalaw10_Turn_turn.j1] at h⟩
  | k + 1 => by
    obtain ⟨ih0, ih1⟩ := partitalaw10_Turn_turn.mono_l k
    refine ⟨?_, ?_⟩
    · intro y0 y1 y2 y3 y4 y5 y6 y7 y8 y9 y10 y11
      unfold partitalaw10_Turn_turn.j0
      repeat' first
      | (with_reducible exact ih0 _ _ _ _ _ _ _ _ _ _ _ _)
      | (with_reducible exact ih1 _ _ _ _ _ _ _ _ _ _ _ _)
      | (with_reducible exact LeO.refl _)
      | (with_reducible exact LeO.none _)
      | (with_reducible refine LeO.ite ?_ ?_)
      | (with_reducible refine LeO.bind ?_ (fun _ => ?_))
      | exact ih0 _ _ _ _ _ _ _ _ _ _ _ _
      | exact ih1 _ _ _ _ _ _ _ _ _ _ _ _
      | exact LeO.none _
      | refine LeO.ite ?_ ?_
      | refine LeO.bind ?_ (fun _ => ?_)
    · intro y0 y1 y2 y3 y4 y5 y6 y7 y8 y9 y10 y11
      unfold partitalaw10_Turn_turn.j1
      repeat' first
      | (with_reducible exact ih0 _ _ _ _ _ _ _ _ _ _ _ _)
      | (with_reducible exact ih1 _ _ _ _ _ _ _ _ _ _ _ _)
      | (with_reducible exact LeO.refl _)
      | (with_reducible exact LeO.none _)
      | (with_reducible refine LeO.ite ?_ ?_)
      | (with_reducible refine LeO.bind ?_ (fun _ => ?_))
      | exact ih0 _ _ _ _ _ _ _ _ _ _ _ _
      | exact ih1 _ _ _ _ _ _ _ _ _ _ _ _
      | exact LeO.none _
      | refine LeO.ite ?_ ?_
      | refine LeO.bind ?_ (fun _ => ?_)
theorem partitalaw10_Turn_turn.mono : ∀ a0 a1 a2 k, LeO (partitalaw10_Turn_turn.f k a0 a1 a2) (partitalaw10_Turn_turn.f (k + 1) a0 a1 a2) := by
  intro a0 a1 a2 k
  obtain ⟨ih0, ih1⟩ := partitalaw10_Turn_turn.mono_l k
  unfold partitalaw10_Turn_turn.f
  repeat' first
      | (with_reducible exact ih0 _ _ _ _ _ _ _ _ _ _ _ _)
      | (with_reducible exact ih1 _ _ _ _ _ _ _ _ _ _ _ _)
      | (with_reducible exact LeO.refl _)
      | (with_reducible exact LeO.none _)
      | (with_reducible refine LeO.ite ?_ ?_)
      | (with_reducible refine LeO.bind ?_ (fun _ => ?_))
      | exact ih0 _ _ _ _ _ _ _ _ _ _ _ _
      | exact ih1 _ _ _ _ _ _ _ _ _ _ _ _
      | exact LeO.none _
      | refine LeO.ite ?_ ?_
      | refine LeO.bind ?_ (fun _ => ?_)
set_option maxHeartbeats 8000000 in
set_option maxRecDepth 100000 in
theorem partitalaw10_Turn_turn.calls (k : Nat) (a0_0 : Int) (a0_1 : Int) (a0_2 : Int) (r1 : Bool) (r2 : Int) (r3 : List Int) (r4 : Bool) (r5 : Bool) (r6 : Bool) (r7 : Bool) (r8 : Int) (w : World) (h : partitalaw10_Turn_turn.f k a0_0 a0_1 a0_2 = some (r1, r2, r3, r4, r5, r6, r7, r8)) :
    Calls Try.prog 22 #[.agg #[.int .u8 a0_0, .int .u8 a0_1, .int .u8 a0_2]] w fun e w' => ∃ v2_ : Value, e = .returned (.agg #[.bool r1, .int .i64 r2, v2_, .bool r4, .bool r5, .bool r6, .bool r7, .int .i64 r8]) ∧ Kd.R (Kd.int .i64) 3 w' w.heap.size (fun _ => True) v2_ r3 ∧ Below w.heap.size w w' := by
  have hu46 := Try.underlying46
  have hu38 := Try.underlying38
  have HB := Aside0.mk (Below.refl w.heap.size w)
  have H := h
  unfold partitalaw10_Turn_turn.f at H
  clear h
  have HC2 := Aside0.mk H
  clear H
  go_enter Try.func22, Try.ntmps22
  go_upto_if 8 with (first | ((with_reducible refine gate_dst (N := 1) rfl ?_); refine box_event ?hg (N := 1) ?hd (cs := #[.int .u8 a0_0, .int .u8 a0_1, .int .u8 a0_2]) (t := 46) ?hr ?_; (case hd => rfl); (case hg => rfl); (case hr => exact qqj); intro gb101 hg w3 hbox hb; have BK101 := Aside0.mk (hbox); have GW101 := Aside0.mk ((qqg : w.heap.size ≤ gb101)); have GE101 := Aside0.mk ((qqg : w.heap.size ≤ gb101)); replace HB := Aside0.mk (below_step (qB HB.out) hb); clear hb hbox hg) | ((with_reducible refine gate_dst (N := 2) rfl ?_); refine box_event ?hg (N := 2) ?hd (cs := #[.bool false, .int .i64 0, .slice none 0 0, .bool false, .bool false, .bool false, .bool false, .int .i64 0]) (t := 38) ?hr ?_; (case hd => rfl); (case hg => rfl); (case hr => exact qqj); intro gb102 hg w4 hbox hb; have BK102 := Aside0.mk (hbox); have GW102 := Aside0.mk ((qqU : w.heap.size ≤ gb102)); have GE102 := Aside0.mk ((qqU : w.heap.size ≤ gb102)); replace HB := Aside0.mk (below_step (qS1 GE101 HB.out) hb); have NB101_102 := Aside0.mk ((qqQ : gb101 ≠ gb102)); have NB102_101 := Aside0.mk ((qqR : gb102 ≠ gb101)); replace BK101 := Aside0.mk (blk_below (bq BK101.out) hb); clear hb hbox hg) | ((with_reducible refine gate_dst (N := 3) rfl ?_); refine box_event ?hg (N := 3) ?hd (cs := #[.bool false, .int .i64 0, .slice none 0 0, .bool false, .bool false, .bool false, .bool false, .int .i64 0]) (t := 38) ?hr ?_; (case hd => rfl); (case hg => rfl); (case hr => exact qqj); intro gb103 hg w5 hbox hb; have BK103 := Aside0.mk (hbox); have GW103 := Aside0.mk ((by rw [hg]; exact (below_size (qS2 GE101 GE102 HB.out)) : w.heap.size ≤ gb103)); have GE103 := Aside0.mk ((by rw [hg]; exact (below_size (qS2 GE101 GE102 HB.out)) : w.heap.size ≤ gb103)); replace HB := Aside0.mk (below_step (qS2 GE101 GE102 HB.out) hb); have NB101_103 := Aside0.mk ((qqQ : gb101 ≠ gb103)); have NB103_101 := Aside0.mk ((qqR : gb103 ≠ gb101)); replace BK101 := Aside0.mk (blk_below (bq BK101.out) hb); have NB102_103 := Aside0.mk ((by rw [hg]; exact Nat.ne_of_lt (blk_lt (bq BK102.out)) : gb102 ≠ gb103)); have NB103_102 := Aside0.mk ((by rw [hg]; exact Nat.ne_of_gt (blk_lt (bq BK102.out)) : gb103 ≠ gb102)); replace BK102 := Aside0.mk (blk_below (bq BK102.out) hb); clear hb hbox hg; have hnb6 := NB103_101.out; have hnc6 := NB101_103.out; have hnb7 := NB103_102.out; have hnc7 := NB102_103.out; have hz8 := cells8 BK103.out; have hnb9 := NB101_102.out; have hnc9 := NB102_101.out; have hz10 := cells3 BK101.out))
  (try simp only [Act.put, List.setIfInBounds_toArray, List.set_cons_zero, List.set_cons_succ])
  go_cut [8] (fun v8 wc => ∃ (kq : Nat) (x8_1 : Bool), v8 = .bool x8_1 ∧ Aside0 (partitalaw10_Turn_turn.j0 kq (Int.tmod a0_0 16) x8_1 a0_0 a0_1 a0_2 false 0 false false false false 0 = some (r1, r2, r3, r4, r5, r6, r7, r8)) ∧ Aside0 (kq ≤ k) ∧ Aside0 (wc.heap[gb101]? = some (.cells #[.int .u8 a0_0, .int .u8 a0_1, .int .u8 a0_2] 46 (0, 0))) ∧ Aside0 (wc.heap[gb102]? = some (.cells #[.bool false, .int .i64 0, (.slice none 0 0), .bool false, .bool false, .bool false, .bool false, .int .i64 0] 38 (0, 0))) ∧ Aside0 (wc.heap[gb103]? = some (.cells #[.bool false, .int .i64 0, (.slice none 0 0), .bool false, .bool false, .bool false, .bool false, .int .i64 0] 38 (0, 0))) ∧ Aside0 (Below w.heap.size w wc))
  case first =>
    have H := HC2.out
    clear HC2
    by_cases c11 : (Int.tmod a0_0 16) = 0
    rotate_left
    · rw [if_neg c11] at H
      have c11b0 : ((Int.tmod a0_0 16) == 0) = false := beq_eq_false_iff_ne.mpr c11
      have c11b1 : ((Int.tmod a0_0 16) != 0) = true := bne_iff_ne.mpr c11
      (first | rw [c11b0] | (simp only [i64_w, i32_w]; rw [c11b0]) | skip)
      have H' := Aside0.mk H
      clear H
      go_wp2
      go_meet
      case rel => exact ⟨_, (((Int.tmod a0_0 16) == 1)), qq3, H', ⟨qqn⟩, ⟨by (with_reducible repeat (first | refine blk_drewN ?_ _ | refine blk_drew ?_ | refine blk_alloc ?_ _)); refine blk_far ?_ NB101_103.out _; (with_reducible repeat (first | refine blk_drewN ?_ _ | refine blk_drew ?_ | refine blk_alloc ?_ _)); refine blk_far ?_ NB101_103.out _; (with_reducible repeat (first | refine blk_drewN ?_ _ | refine blk_drew ?_ | refine blk_alloc ?_ _)); refine blk_far ?_ NB101_103.out _; (with_reducible repeat (first | refine blk_drewN ?_ _ | refine blk_drew ?_ | refine blk_alloc ?_ _)); refine blk_far ?_ NB101_103.out _; (with_reducible repeat (first | refine blk_drewN ?_ _ | refine blk_drew ?_ | refine blk_alloc ?_ _)); refine blk_far ?_ NB101_103.out _; (with_reducible repeat (first | refine blk_drewN ?_ _ | refine blk_drew ?_ | refine blk_alloc ?_ _)); refine blk_far ?_ NB101_103.out _; (with_reducible repeat (first | refine blk_drewN ?_ _ | refine blk_drew ?_ | refine blk_alloc ?_ _)); refine blk_far ?_ NB101_103.out _; (with_reducible repeat (first | refine blk_drewN ?_ _ | refine blk_drew ?_ | refine blk_alloc ?_ _)); refine blk_far ?_ NB101_103.out _; (with_reducible repeat (first | refine blk_drewN ?_ _ | refine blk_drew ?_ | refine blk_alloc ?_ _)); exact BK101.out⟩, ⟨by (with_reducible repeat (first | refine blk_drewN ?_ _ | refine blk_drew ?_ | refine blk_alloc ?_ _)); refine blk_far ?_ NB102_103.out _; (with_reducible repeat (first | refine blk_drewN ?_ _ | refine blk_drew ?_ | refine blk_alloc ?_ _)); refine blk_far ?_ NB102_103.out _; (with_reducible repeat (first | refine blk_drewN ?_ _ | refine blk_drew ?_ | refine blk_alloc ?_ _)); refine blk_far ?_ NB102_103.out _; (with_reducible repeat (first | refine blk_drewN ?_ _ | refine blk_drew ?_ | refine blk_alloc ?_ _)); refine blk_far ?_ NB102_103.out _; (with_reducible repeat (first | refine blk_drewN ?_ _ | refine blk_drew ?_ | refine blk_alloc ?_ _)); refine blk_far ?_ NB102_103.out _; (with_reducible repeat (first | refine blk_drewN ?_ _ | refine blk_drew ?_ | refine blk_alloc ?_ _)); refine blk_far ?_ NB102_103.out _; (with_reducible repeat (first | refine blk_drewN ?_ _ | refine blk_drew ?_ | refine blk_alloc ?_ _)); refine blk_far ?_ NB102_103.out _; (with_reducible repeat (first | refine blk_drewN ?_ _ | refine blk_drew ?_ | refine blk_alloc ?_ _)); refine blk_far ?_ NB102_103.out _; (with_reducible repeat (first | refine blk_drewN ?_ _ | refine blk_drew ?_ | refine blk_alloc ?_ _)); exact BK102.out⟩, ⟨by (with_reducible repeat (first | refine blk_drewN ?_ _ | refine blk_drew ?_ | refine blk_alloc ?_ _)); refine blk_put (cs := #[.bool false, .int .i64 0, .slice none 0 0, .bool false, .bool false, .bool false, .bool false, .int .i64 0]) ?_ 7 _ rfl; (with_reducible repeat (first | refine blk_drewN ?_ _ | refine blk_drew ?_ | refine blk_alloc ?_ _)); refine blk_put (cs := #[.bool false, .int .i64 0, .slice none 0 0, .bool false, .bool false, .bool false, .bool false, .int .i64 0]) ?_ 6 _ rfl; (with_reducible repeat (first | refine blk_drewN ?_ _ | refine blk_drew ?_ | refine blk_alloc ?_ _)); refine blk_put (cs := #[.bool false, .int .i64 0, .slice none 0 0, .bool false, .bool false, .bool false, .bool false, .int .i64 0]) ?_ 5 _ rfl; (with_reducible repeat (first | refine blk_drewN ?_ _ | refine blk_drew ?_ | refine blk_alloc ?_ _)); refine blk_put (cs := #[.bool false, .int .i64 0, .slice none 0 0, .bool false, .bool false, .bool false, .bool false, .int .i64 0]) ?_ 4 _ rfl; (with_reducible repeat (first | refine blk_drewN ?_ _ | refine blk_drew ?_ | refine blk_alloc ?_ _)); refine blk_put (cs := #[.bool false, .int .i64 0, .slice none 0 0, .bool false, .bool false, .bool false, .bool false, .int .i64 0]) ?_ 3 _ rfl; (with_reducible repeat (first | refine blk_drewN ?_ _ | refine blk_drew ?_ | refine blk_alloc ?_ _)); refine blk_put (cs := #[.bool false, .int .i64 0, .slice none 0 0, .bool false, .bool false, .bool false, .bool false, .int .i64 0]) ?_ 2 _ rfl; (with_reducible repeat (first | refine blk_drewN ?_ _ | refine blk_drew ?_ | refine blk_alloc ?_ _)); refine blk_put (cs := #[.bool false, .int .i64 0, .slice none 0 0, .bool false, .bool false, .bool false, .bool false, .int .i64 0]) ?_ 1 _ rfl; (with_reducible repeat (first | refine blk_drewN ?_ _ | refine blk_drew ?_ | refine blk_alloc ?_ _)); refine blk_put (cs := #[.bool false, .int .i64 0, .slice none 0 0, .bool false, .bool false, .bool false, .bool false, .int .i64 0]) ?_ 0 _ rfl; (with_reducible repeat (first | refine blk_drewN ?_ _ | refine blk_drew ?_ | refine blk_alloc ?_ _)); exact BK103.out⟩, ⟨qS3 GE101 GE102 GE103 HB.out⟩⟩
    rw [if_pos c11] at H
    have c11b0 : ((Int.tmod a0_0 16) == 0) = true := beq_iff_eq.mpr c11
    have c11b1 : ((Int.tmod a0_0 16) != 0) = false := bne_eq_false_iff_eq.mpr c11
    clear c11
    (first | rw [c11b0] | (simp only [i64_w, i32_w]; rw [c11b0]) | skip)
    have H' := Aside0.mk H
    clear H
    go_wp2
    go_meet
    case rel => exact ⟨_, (((Int.tmod a0_0 16) == 0)), qq3, H', ⟨qqn⟩, ⟨by (with_reducible repeat (first | refine blk_drewN ?_ _ | refine blk_drew ?_ | refine blk_alloc ?_ _)); refine blk_far ?_ NB101_103.out _; (with_reducible repeat (first | refine blk_drewN ?_ _ | refine blk_drew ?_ | refine blk_alloc ?_ _)); refine blk_far ?_ NB101_103.out _; (with_reducible repeat (first | refine blk_drewN ?_ _ | refine blk_drew ?_ | refine blk_alloc ?_ _)); refine blk_far ?_ NB101_103.out _; (with_reducible repeat (first | refine blk_drewN ?_ _ | refine blk_drew ?_ | refine blk_alloc ?_ _)); refine blk_far ?_ NB101_103.out _; (with_reducible repeat (first | refine blk_drewN ?_ _ | refine blk_drew ?_ | refine blk_alloc ?_ _)); refine blk_far ?_ NB101_103.out _; (with_reducible repeat (first | refine blk_drewN ?_ _ | refine blk_drew ?_ | refine blk_alloc ?_ _)); refine blk_far ?_ NB101_103.out _; (with_reducible repeat (first | refine blk_drewN ?_ _ | refine blk_drew ?_ | refine blk_alloc ?_ _)); refine blk_far ?_ NB101_103.out _; (with_reducible repeat (first | refine blk_drewN ?_ _ | refine blk_drew ?_ | refine blk_alloc ?_ _)); refine blk_far ?_ NB101_103.out _; (with_reducible repeat (first | refine blk_drewN ?_ _ | refine blk_drew ?_ | refine blk_alloc ?_ _)); exact BK101.out⟩, ⟨by (with_reducible repeat (first | refine blk_drewN ?_ _ | refine blk_drew ?_ | refine blk_alloc ?_ _)); refine blk_far ?_ NB102_103.out _; (with_reducible repeat (first | refine blk_drewN ?_ _ | refine blk_drew ?_ | refine blk_alloc ?_ _)); refine blk_far ?_ NB102_103.out _; (with_reducible repeat (first | refine blk_drewN ?_ _ | refine blk_drew ?_ | refine blk_alloc ?_ _)); refine blk_far ?_ NB102_103.out _; (with_reducible repeat (first | refine blk_drewN ?_ _ | refine blk_drew ?_ | refine blk_alloc ?_ _)); refine blk_far ?_ NB102_103.out _; (with_reducible repeat (first | refine blk_drewN ?_ _ | refine blk_drew ?_ | refine blk_alloc ?_ _)); refine blk_far ?_ NB102_103.out _; (with_reducible repeat (first | refine blk_drewN ?_ _ | refine blk_drew ?_ | refine blk_alloc ?_ _)); refine blk_far ?_ NB102_103.out _; (with_reducible repeat (first | refine blk_drewN ?_ _ | refine blk_drew ?_ | refine blk_alloc ?_ _)); refine blk_far ?_ NB102_103.out _; (with_reducible repeat (first | refine blk_drewN ?_ _ | refine blk_drew ?_ | refine blk_alloc ?_ _)); refine blk_far ?_ NB102_103.out _; (with_reducible repeat (first | refine blk_drewN ?_ _ | refine blk_drew ?_ | refine blk_alloc ?_ _)); exact BK102.out⟩, ⟨by (with_reducible repeat (first | refine blk_drewN ?_ _ | refine blk_drew ?_ | refine blk_alloc ?_ _)); refine blk_put (cs := #[.bool false, .int .i64 0, .slice none 0 0, .bool false, .bool false, .bool false, .bool false, .int .i64 0]) ?_ 7 _ rfl; (with_reducible repeat (first | refine blk_drewN ?_ _ | refine blk_drew ?_ | refine blk_alloc ?_ _)); refine blk_put (cs := #[.bool false, .int .i64 0, .slice none 0 0, .bool false, .bool false, .bool false, .bool false, .int .i64 0]) ?_ 6 _ rfl; (with_reducible repeat (first | refine blk_drewN ?_ _ | refine blk_drew ?_ | refine blk_alloc ?_ _)); refine blk_put (cs := #[.bool false, .int .i64 0, .slice none 0 0, .bool false, .bool false, .bool false, .bool false, .int .i64 0]) ?_ 5 _ rfl; (with_reducible repeat (first | refine blk_drewN ?_ _ | refine blk_drew ?_ | refine blk_alloc ?_ _)); refine blk_put (cs := #[.bool false, .int .i64 0, .slice none 0 0, .bool false, .bool false, .bool false, .bool false, .int .i64 0]) ?_ 4 _ rfl; (with_reducible repeat (first | refine blk_drewN ?_ _ | refine blk_drew ?_ | refine blk_alloc ?_ _)); refine blk_put (cs := #[.bool false, .int .i64 0, .slice none 0 0, .bool false, .bool false, .bool false, .bool false, .int .i64 0]) ?_ 3 _ rfl; (with_reducible repeat (first | refine blk_drewN ?_ _ | refine blk_drew ?_ | refine blk_alloc ?_ _)); refine blk_put (cs := #[.bool false, .int .i64 0, .slice none 0 0, .bool false, .bool false, .bool false, .bool false, .int .i64 0]) ?_ 2 _ rfl; (with_reducible repeat (first | refine blk_drewN ?_ _ | refine blk_drew ?_ | refine blk_alloc ?_ _)); refine blk_put (cs := #[.bool false, .int .i64 0, .slice none 0 0, .bool false, .bool false, .bool false, .bool false, .int .i64 0]) ?_ 1 _ rfl; (with_reducible repeat (first | refine blk_drewN ?_ _ | refine blk_drew ?_ | refine blk_alloc ?_ _)); refine blk_put (cs := #[.bool false, .int .i64 0, .slice none 0 0, .bool false, .bool false, .bool false, .bool false, .int .i64 0]) ?_ 0 _ rfl; (with_reducible repeat (first | refine blk_drewN ?_ _ | refine blk_drew ?_ | refine blk_alloc ?_ _)); exact BK103.out⟩, ⟨qS3 GE101 GE102 GE103 HB.out⟩⟩
  case rest =>
    clear HC2
    try clear c1
    try clear c2
    try clear p2
    try clear c6
    try clear c7
    try clear c9
    try clear c11
    try clear c11b0
    try clear c11b1
    obtain ⟨kq, x8_1, rfl, HA, HJ1, BK101, BK102, BK103, HB⟩ := hcut
    cases kq with
    | zero => exact absurd HA.out (by simp [partitalaw10_Turn_turn.j0])
    | succ kj1 =>
      have H := HA.out
      clear HA
      simp only [partitalaw10_Turn_turn.j0] at H
      by_cases c12 : x8_1 = true
      · subst c12
        have H1 : (some (true, 0, ([] : List Int), false, false, false, false, 0)) = some (r1, r2, r3, r4, r5, r6, r7, r8) := by rw [if_pos rfl] at H; exact H
        clear H
        have H := H1
        clear H1
        simp only [Option.some.injEq, Prod.mk.injEq] at H
        obtain ⟨rfl, rfl, rfl, rfl, rfl, rfl, rfl, rfl⟩ := H
        have hnb13 := NB103_101.out
        have hnc13 := NB101_103.out
        have hnb14 := NB103_102.out
        have hnc14 := NB102_103.out
        have hz15 := cells8 BK103.out
        have hnb16 := NB102_101.out
        have hnc16 := NB101_102.out
        have hz17 := cells8 BK102.out
        go_wp2
        refine bodyPost_ret (results_cell_row rfl _ _ gb102 38 #[.bool true, .int .i64 0, .slice none 0 0, .bool false, .bool false, .bool false, .bool false, .int .i64 0] (0, 0) _ rfl (by refine bq ?_; refine blk_put (cs := #[.bool true, .int .i64 0, .slice none 0 0, .bool false, .bool false, .bool false, .bool false, .int .i64 0]) ?_ 7 _ rfl; refine bq ?_; refine blk_put (cs := #[.bool true, .int .i64 0, .slice none 0 0, .bool false, .bool false, .bool false, .bool false, .int .i64 0]) ?_ 6 _ rfl; refine bq ?_; refine blk_put (cs := #[.bool true, .int .i64 0, .slice none 0 0, .bool false, .bool false, .bool false, .bool false, .int .i64 0]) ?_ 5 _ rfl; refine bq ?_; refine blk_put (cs := #[.bool true, .int .i64 0, .slice none 0 0, .bool false, .bool false, .bool false, .bool false, .int .i64 0]) ?_ 4 _ rfl; refine bq ?_; refine blk_put (cs := #[.bool true, .int .i64 0, .slice none 0 0, .bool false, .bool false, .bool false, .bool false, .int .i64 0]) ?_ 3 _ rfl; refine bq ?_; refine blk_put (cs := #[.bool true, .int .i64 0, .slice none 0 0, .bool false, .bool false, .bool false, .bool false, .int .i64 0]) ?_ 2 _ rfl; refine bq ?_; refine blk_put (cs := #[.bool true, .int .i64 0, .slice none 0 0, .bool false, .bool false, .bool false, .bool false, .int .i64 0]) ?_ 1 _ rfl; refine bq ?_; refine blk_put (cs := #[.bool false, .int .i64 0, .slice none 0 0, .bool false, .bool false, .bool false, .bool false, .int .i64 0]) ?_ 0 _ rfl; refine bq ?_; refine blk_far ?_ NB102_103.out _; exact bq BK102.out) Try.underlying38 rfl (by kernel_rfl)) rfl ?_
        exact ⟨_, qq2, qqb, qS3 GE101 GE102 GE103 HB.out⟩
      replace c12 := Bool.eq_false_iff.mpr c12
      subst c12
      have H1 : (if (Int.tmod a0_0 16) = 2 then (partitalaw10_Turn_turn.j1 kj1 (Int.tmod a0_0 16) ((Int.tmod a0_0 16) == 2) a0_0 a0_1 a0_2 false 0 false false false false 0) else (partitalaw10_Turn_turn.j1 kj1 (Int.tmod a0_0 16) ((Int.tmod a0_0 16) == 3) a0_0 a0_1 a0_2 false 0 false false false false 0)) = some (r1, r2, r3, r4, r5, r6, r7, r8) := by rw [if_neg (show ¬ (false = true) by decide)] at H; exact H
      clear H
      have H := H1
      clear H1
      have HC18 := Aside0.mk H
      clear H
      go_upto_if 12 with (fail)
      go_cut [12] (fun v12 wc => ∃ (kq : Nat) (x12_17 : Bool), v12 = .bool x12_17 ∧ Aside0 (partitalaw10_Turn_turn.j1 kq (Int.tmod a0_0 16) x12_17 a0_0 a0_1 a0_2 false 0 false false false false 0 = some (r1, r2, r3, r4, r5, r6, r7, r8)) ∧ Aside0 (kq ≤ kj1) ∧ Aside0 (wc.heap[gb101]? = some (.cells #[.int .u8 a0_0, .int .u8 a0_1, .int .u8 a0_2] 46 (0, 0))) ∧ Aside0 (wc.heap[gb102]? = some (.cells #[.bool false, .int .i64 0, (.slice none 0 0), .bool false, .bool false, .bool false, .bool false, .int .i64 0] 38 (0, 0))) ∧ Aside0 (wc.heap[gb103]? = some (.cells #[.bool false, .int .i64 0, (.slice none 0 0), .bool false, .bool false, .bool false, .bool false, .int .i64 0] 38 (0, 0))) ∧ Aside0 (Below w.heap.size w wc))
      case first =>
        have H := HC18.out
        clear HC18
        by_cases c19 : (Int.tmod a0_0 16) = 2
        rotate_left
        · rw [if_neg c19] at H
          have c19b0 : ((Int.tmod a0_0 16) == 2) = false := beq_eq_false_iff_ne.mpr c19
          have c19b1 : ((Int.tmod a0_0 16) != 2) = true := bne_iff_ne.mpr c19
          (first | rw [c19b0] | (simp only [i64_w, i32_w]; rw [c19b0]) | skip)
          have H' := Aside0.mk H
          clear H
          go_wp2
          go_meet
          case rel => exact ⟨_, (((Int.tmod a0_0 16) == 3)), qq3, H', ⟨qqM⟩, ⟨bq BK101.out⟩, ⟨bq BK102.out⟩, ⟨bq BK103.out⟩, ⟨qS3 GE101 GE102 GE103 HB.out⟩⟩
        rw [if_pos c19] at H
        have c19b0 : ((Int.tmod a0_0 16) == 2) = true := beq_iff_eq.mpr c19
        have c19b1 : ((Int.tmod a0_0 16) != 2) = false := bne_eq_false_iff_eq.mpr c19
        clear c19
        (first | rw [c19b0] | (simp only [i64_w, i32_w]; rw [c19b0]) | skip)
        have H' := Aside0.mk H
        clear H
        go_wp2
        go_meet
        case rel => exact ⟨_, (((Int.tmod a0_0 16) == 2)), qq3, H', ⟨qqM⟩, ⟨bq BK101.out⟩, ⟨bq BK102.out⟩, ⟨bq BK103.out⟩, ⟨qS3 GE101 GE102 GE103 HB.out⟩⟩
      case rest =>
        clear HC18
        try clear c1
        try clear c2
        try clear p2
        try clear c6
        try clear c7
        try clear c9
        try clear c11
        try clear c11b0
        try clear c11b1
        try clear c12
        try clear c13
        try clear c14
        try clear c16
        try clear c19
        try clear c19b0
        try clear c19b1
        try clear p2
        obtain ⟨kq, x12_17, rfl, HA, HJ17, BK101, BK102, BK103, HB⟩ := hcut
        cases kq with
        | zero => exact absurd HA.out (by simp [partitalaw10_Turn_turn.j1])
        | succ kj17 =>
          have H := HA.out
          clear HA
          simp only [partitalaw10_Turn_turn.j1] at H
          by_cases c20 : x12_17 = true
          · subst c20
            have H1 : (some (false, wrap64 (2 + (wrap64 (Int.tmod a0_1 3))), ([] : List Int), false, false, false, false, 0)) = some (r1, r2, r3, r4, r5, r6, r7, r8) := by rw [if_pos rfl] at H; exact H
            clear H
            have H := H1
            clear H1
            simp only [Option.some.injEq, Prod.mk.injEq] at H
            obtain ⟨rfl, rfl, rfl, rfl, rfl, rfl, rfl, rfl⟩ := H
            have hnb21 := NB101_102.out
            have hnc21 := NB102_101.out
            have hnb22 := NB101_103.out
            have hnc22 := NB103_101.out
            have hz23 := cells3 BK101.out
            have hnb24 := NB103_102.out
            have hnc24 := NB102_103.out
            have hz25 := cells8 BK103.out
            have hz26 := cells8 BK102.out
            go_wp2
            refine bodyPost_ret (results_cell_row rfl _ _ gb102 38 #[.bool false, .int .i64 (wrap64 (2 + (wrap64 (Int.tmod a0_1 3)))), .slice none 0 0, .bool false, .bool false, .bool false, .bool false, .int .i64 0] (0, 0) _ rfl (by refine bq ?_; refine blk_put (cs := #[.bool false, .int .i64 (wrap64 (2 + (wrap64 (Int.tmod a0_1 3)))), .slice none 0 0, .bool false, .bool false, .bool false, .bool false, .int .i64 0]) ?_ 7 _ rfl; refine bq ?_; refine blk_put (cs := #[.bool false, .int .i64 (wrap64 (2 + (wrap64 (Int.tmod a0_1 3)))), .slice none 0 0, .bool false, .bool false, .bool false, .bool false, .int .i64 0]) ?_ 6 _ rfl; refine bq ?_; refine blk_put (cs := #[.bool false, .int .i64 (wrap64 (2 + (wrap64 (Int.tmod a0_1 3)))), .slice none 0 0, .bool false, .bool false, .bool false, .bool false, .int .i64 0]) ?_ 5 _ rfl; refine bq ?_; refine blk_put (cs := #[.bool false, .int .i64 (wrap64 (2 + (wrap64 (Int.tmod a0_1 3)))), .slice none 0 0, .bool false, .bool false, .bool false, .bool false, .int .i64 0]) ?_ 4 _ rfl; refine bq ?_; refine blk_put (cs := #[.bool false, .int .i64 (wrap64 (2 + (wrap64 (Int.tmod a0_1 3)))), .slice none 0 0, .bool false, .bool false, .bool false, .bool false, .int .i64 0]) ?_ 3 _ rfl; refine bq ?_; refine blk_put (cs := #[.bool false, .int .i64 (wrap64 (2 + (wrap64 (Int.tmod a0_1 3)))), .slice none 0 0, .bool false, .bool false, .bool false, .bool false, .int .i64 0]) ?_ 2 _ rfl; refine bq ?_; refine blk_put (cs := #[.bool false, .int .i64 0, .slice none 0 0, .bool false, .bool false, .bool false, .bool false, .int .i64 0]) ?_ 1 _ rfl; refine bq ?_; refine blk_put (cs := #[.bool false, .int .i64 0, .slice none 0 0, .bool false, .bool false, .bool false, .bool false, .int .i64 0]) ?_ 0 _ rfl; refine bq ?_; refine blk_far ?_ NB102_103.out _; exact bq BK102.out) Try.underlying38 rfl (by kernel_rfl)) rfl ?_
            exact ⟨_, qq2, qqb, qS3 GE101 GE102 GE103 HB.out⟩
          replace c20 := Bool.eq_false_iff.mpr c20
          subst c20
          have H1 : (if (Int.tmod a0_0 16) = 4 then (some (false, wrap64 (2 + (wrap64 (Int.tmod a0_2 2))), (([wrap64 (1 + (wrap64 (Int.tmod a0_1 3)))] : List Int)), false, false, false, false, 0)) else (if (Int.tmod a0_0 16) = 5 then (some (false, 0, (([wrap64 (1 + (wrap64 (Int.tmod a0_1 3)))] : List Int)), false, false, false, false, 0)) else (if (Int.tmod a0_0 16) = 6 then (some (false, 3, (([1, wrap64 (2 + (wrap64 (Int.tmod a0_1 2)))] : List Int)), false, false, false, false, 0)) else (if (Int.tmod a0_0 16) = 7 then (some (false, 0, ([] : List Int), false, false, false, true, 0)) else (if (Int.tmod a0_0 16) = 8 then (some (false, 0, ([] : List Int), false, false, true, false, 0)) else (if (Int.tmod a0_0 16) = 9 then (some (true, wrap64 (2 + (wrap64 (Int.tmod a0_1 8))), ([] : List Int), false, false, false, false, 0)) else (some (false, 0, ([] : List Int), false, false, false, false, 0)))))))) = some (r1, r2, r3, r4, r5, r6, r7, r8) := by rw [if_neg (show ¬ (false = true) by decide)] at H; exact H
          clear H
          have H := H1
          clear H1
          by_cases c27 : (Int.tmod a0_0 16) = 4
          · rw [if_pos c27] at H
            have c27b0 : ((Int.tmod a0_0 16) == 4) = true := beq_iff_eq.mpr c27
            have c27b1 : ((Int.tmod a0_0 16) != 4) = false := bne_eq_false_iff_eq.mpr c27
            clear c27
            obtain ⟨y104, hy104⟩ : ∃ y_ : List Int, y_ = (([wrap64 (1 + (wrap64 (Int.tmod a0_1 3)))] : List Int)) := ⟨_, rfl⟩
            replace H : (some (false, wrap64 (2 + (wrap64 (Int.tmod a0_2 2))), y104, false, false, false, false, 0)) = some (r1, r2, r3, r4, r5, r6, r7, r8) := by first | (rw [hy104]; with_reducible exact H) | (have H2_ := (Option.bind_some _ _).symm.trans H; rw [hy104]; with_reducible exact H2_) | (have H2_ := (Option.bind_some _ _).symm.trans H; with_reducible exact H2_) | with_reducible exact H | (rw [hy104]; exact H) | exact H
            have Ny104 := Aside0.mk hy104
            clear hy104
            simp only [Option.some.injEq, Prod.mk.injEq] at H
            obtain ⟨rfl, rfl, rfl, rfl, rfl, rfl, rfl, rfl⟩ := H
            have hnb28 := NB101_102.out
            have hnc28 := NB102_101.out
            have hnb29 := NB101_103.out
            have hnc29 := NB103_101.out
            have hz30 := cells3 BK101.out
            go_wp2_with (first | ((with_reducible refine gate_dst (N := 28) rfl ?_); refine Kd.R_lit (Kd.int .i64) _ 3 ?hg (N := 28) ?hd (xs := ([wrap64 (1 + (wrap64 (Int.tmod a0_1 3)))] : List Int)) (inner := [.int .i64 (wrap64 (1 + (wrap64 (Int.tmod a0_1 3))))]) (ok := fun _ => True) (okp := fun _ => True) ?hr ?hp (fun _ hk => hk) trivial (Below.refl _ _) (Nat.le_refl _) (by simp) ?_; (case hd => rfl); (case hg => rfl); (case hr => exact qqj); (case hp => exact qqS); intro v105 w31 ho32 hb hg_ hnew_; clear hg_ hnew_; (first | rw [← Ny104.out] at ho32 | (simp only [Int.reduceToNat] at ho32; rw [← Ny104.out] at ho32)); have HO106 := Aside0.mk (Kd.R_lower ho32 (below_size (qS3 GE101 GE102 GE103 HB.out))); replace BK101 := Aside0.mk (blk_below (bq BK101.out) hb); replace BK102 := Aside0.mk (blk_below (bq BK102.out) hb); replace BK103 := Aside0.mk (blk_below (bq BK103.out) hb); replace HB := Aside0.mk (below_step (qS3 GE101 GE102 GE103 HB.out) hb); clear hb ho32; obtain ⟨Ao33, co33, eo33⟩ := Kd.R_slice HO106.out; subst eo33; have hnb34 := NB103_102.out; have hnc34 := NB102_103.out; have hz35 := cells8 BK103.out; have hz36 := cells3 BK101.out; have hz37 := cells8 BK102.out))
            refine bodyPost_ret (results_cell_row rfl _ _ gb102 38 #[.bool false, .int .i64 (wrap64 (2 + (wrap64 (Int.tmod a0_2 2)))), .slice Ao33 y104.length co33, .bool false, .bool false, .bool false, .bool false, .int .i64 0] (0, 0) _ rfl (by refine bq ?_; refine blk_put (cs := #[.bool false, .int .i64 (wrap64 (2 + (wrap64 (Int.tmod a0_2 2)))), .slice Ao33 y104.length co33, .bool false, .bool false, .bool false, .bool false, .int .i64 0]) ?_ 7 _ rfl; refine bq ?_; refine blk_put (cs := #[.bool false, .int .i64 (wrap64 (2 + (wrap64 (Int.tmod a0_2 2)))), .slice Ao33 y104.length co33, .bool false, .bool false, .bool false, .bool false, .int .i64 0]) ?_ 6 _ rfl; refine bq ?_; refine blk_put (cs := #[.bool false, .int .i64 (wrap64 (2 + (wrap64 (Int.tmod a0_2 2)))), .slice Ao33 y104.length co33, .bool false, .bool false, .bool false, .bool false, .int .i64 0]) ?_ 5 _ rfl; refine bq ?_; refine blk_put (cs := #[.bool false, .int .i64 (wrap64 (2 + (wrap64 (Int.tmod a0_2 2)))), .slice Ao33 y104.length co33, .bool false, .bool false, .bool false, .bool false, .int .i64 0]) ?_ 4 _ rfl; refine bq ?_; refine blk_put (cs := #[.bool false, .int .i64 (wrap64 (2 + (wrap64 (Int.tmod a0_2 2)))), .slice Ao33 y104.length co33, .bool false, .bool false, .bool false, .bool false, .int .i64 0]) ?_ 3 _ rfl; refine bq ?_; refine blk_put (cs := #[.bool false, .int .i64 (wrap64 (2 + (wrap64 (Int.tmod a0_2 2)))), .slice none 0 0, .bool false, .bool false, .bool false, .bool false, .int .i64 0]) ?_ 2 _ rfl; refine bq ?_; refine blk_put (cs := #[.bool false, .int .i64 0, .slice none 0 0, .bool false, .bool false, .bool false, .bool false, .int .i64 0]) ?_ 1 _ rfl; refine bq ?_; refine blk_put (cs := #[.bool false, .int .i64 0, .slice none 0 0, .bool false, .bool false, .bool false, .bool false, .int .i64 0]) ?_ 0 _ rfl; refine bq ?_; refine blk_far ?_ NB102_103.out _; refine bq ?_; refine blk_far ?_ NB102_103.out _; exact bq BK102.out) Try.underlying38 rfl (by kernel_rfl)) rfl ?_
            exact ⟨_, qq2, by (with_reducible repeat (first | apply Kd.R_alloc | apply Kd.R_drewN | apply Kd.R_drew)); exact Kd.R_mono (Kd.R_far (p := ⟨gb102, 7, none⟩) (Kd.R_far (p := ⟨gb102, 6, none⟩) (Kd.R_far (p := ⟨gb102, 5, none⟩) (Kd.R_far (p := ⟨gb102, 4, none⟩) (Kd.R_far (p := ⟨gb102, 3, none⟩) (Kd.R_far (p := ⟨gb102, 2, none⟩) (Kd.R_far (p := ⟨gb102, 1, none⟩) (Kd.R_far (p := ⟨gb102, 0, none⟩) (Kd.R_far (p := ⟨gb103, 1, none⟩) (Kd.R_far (p := ⟨gb103, 2, none⟩) (Kd.R_types (Kd.R_types HO106.out BK103.out (by decide)) BK102.out (by decide)) (fun _ hk => hk.1.2) (.slice Ao33 y104.length co33)) (fun _ hk => hk.1.2) (.int .i64 (wrap64 (2 + (wrap64 (Int.tmod a0_2 2)))))) (fun _ hk => hk.2) (.bool false)) (fun _ hk => hk.2) (.int .i64 (wrap64 (2 + (wrap64 (Int.tmod a0_2 2)))))) (fun _ hk => hk.2) (.slice Ao33 y104.length co33)) (fun _ hk => hk.2) (.bool false)) (fun _ hk => hk.2) (.bool false)) (fun _ hk => hk.2) (.bool false)) (fun _ hk => hk.2) (.bool false)) (fun _ hk => hk.2) (.int .i64 0)) (fun _ hk => trivial), qS3 GE101 GE102 GE103 HB.out⟩
          rw [if_neg c27] at H
          have c27b0 : ((Int.tmod a0_0 16) == 4) = false := beq_eq_false_iff_ne.mpr c27
          have c27b1 : ((Int.tmod a0_0 16) != 4) = true := bne_iff_ne.mpr c27
          by_cases c38 : (Int.tmod a0_0 16) = 5
          · rw [if_pos c38] at H
            have c38b0 : ((Int.tmod a0_0 16) == 5) = true := beq_iff_eq.mpr c38
            have c38b1 : ((Int.tmod a0_0 16) != 5) = false := bne_eq_false_iff_eq.mpr c38
            clear c38
            obtain ⟨y107, hy107⟩ : ∃ y_ : List Int, y_ = (([wrap64 (1 + (wrap64 (Int.tmod a0_1 3)))] : List Int)) := ⟨_, rfl⟩
            replace H : (some (false, 0, y107, false, false, false, false, 0)) = some (r1, r2, r3, r4, r5, r6, r7, r8) := by first | (rw [hy107]; with_reducible exact H) | (have H2_ := (Option.bind_some _ _).symm.trans H; rw [hy107]; with_reducible exact H2_) | (have H2_ := (Option.bind_some _ _).symm.trans H; with_reducible exact H2_) | with_reducible exact H | (rw [hy107]; exact H) | exact H
            have Ny107 := Aside0.mk hy107
            clear hy107
            simp only [Option.some.injEq, Prod.mk.injEq] at H
            obtain ⟨rfl, rfl, rfl, rfl, rfl, rfl, rfl, rfl⟩ := H
            have hnb39 := NB101_102.out
            have hnc39 := NB102_101.out
            have hnb40 := NB101_103.out
            have hnc40 := NB103_101.out
            have hz41 := cells3 BK101.out
            go_wp2_with (first | ((with_reducible refine gate_dst (N := 43) rfl ?_); refine Kd.R_lit (Kd.int .i64) _ 3 ?hg (N := 43) ?hd (xs := ([wrap64 (1 + (wrap64 (Int.tmod a0_1 3)))] : List Int)) (inner := [.int .i64 (wrap64 (1 + (wrap64 (Int.tmod a0_1 3))))]) (ok := fun _ => True) (okp := fun _ => True) ?hr ?hp (fun _ hk => hk) trivial (Below.refl _ _) (Nat.le_refl _) (by simp) ?_; (case hd => rfl); (case hg => rfl); (case hr => exact qqj); (case hp => exact qqS); intro v108 w42 ho43 hb hg_ hnew_; clear hg_ hnew_; (first | rw [← Ny107.out] at ho43 | (simp only [Int.reduceToNat] at ho43; rw [← Ny107.out] at ho43)); have HO109 := Aside0.mk (Kd.R_lower ho43 (below_size (qS3 GE101 GE102 GE103 HB.out))); replace BK101 := Aside0.mk (blk_below (bq BK101.out) hb); replace BK102 := Aside0.mk (blk_below (bq BK102.out) hb); replace BK103 := Aside0.mk (blk_below (bq BK103.out) hb); replace HB := Aside0.mk (below_step (qS3 GE101 GE102 GE103 HB.out) hb); clear hb ho43; obtain ⟨Ao44, co44, eo44⟩ := Kd.R_slice HO109.out; subst eo44; have hnb45 := NB103_102.out; have hnc45 := NB102_103.out; have hz46 := cells8 BK103.out; have hz47 := cells8 BK102.out))
            refine bodyPost_ret (results_cell_row rfl _ _ gb102 38 #[.bool false, .int .i64 0, .slice Ao44 y107.length co44, .bool false, .bool false, .bool false, .bool false, .int .i64 0] (0, 0) _ rfl (by refine bq ?_; refine blk_put (cs := #[.bool false, .int .i64 0, .slice Ao44 y107.length co44, .bool false, .bool false, .bool false, .bool false, .int .i64 0]) ?_ 7 _ rfl; refine bq ?_; refine blk_put (cs := #[.bool false, .int .i64 0, .slice Ao44 y107.length co44, .bool false, .bool false, .bool false, .bool false, .int .i64 0]) ?_ 6 _ rfl; refine bq ?_; refine blk_put (cs := #[.bool false, .int .i64 0, .slice Ao44 y107.length co44, .bool false, .bool false, .bool false, .bool false, .int .i64 0]) ?_ 5 _ rfl; refine bq ?_; refine blk_put (cs := #[.bool false, .int .i64 0, .slice Ao44 y107.length co44, .bool false, .bool false, .bool false, .bool false, .int .i64 0]) ?_ 4 _ rfl; refine bq ?_; refine blk_put (cs := #[.bool false, .int .i64 0, .slice Ao44 y107.length co44, .bool false, .bool false, .bool false, .bool false, .int .i64 0]) ?_ 3 _ rfl; refine bq ?_; refine blk_put (cs := #[.bool false, .int .i64 0, .slice none 0 0, .bool false, .bool false, .bool false, .bool false, .int .i64 0]) ?_ 2 _ rfl; refine bq ?_; refine blk_put (cs := #[.bool false, .int .i64 0, .slice none 0 0, .bool false, .bool false, .bool false, .bool false, .int .i64 0]) ?_ 1 _ rfl; refine bq ?_; refine blk_put (cs := #[.bool false, .int .i64 0, .slice none 0 0, .bool false, .bool false, .bool false, .bool false, .int .i64 0]) ?_ 0 _ rfl; refine bq ?_; refine blk_far ?_ NB102_103.out _; exact bq BK102.out) Try.underlying38 rfl (by kernel_rfl)) rfl ?_
            exact ⟨_, qq2, by (with_reducible repeat (first | apply Kd.R_alloc | apply Kd.R_drewN | apply Kd.R_drew)); exact Kd.R_mono (Kd.R_far (p := ⟨gb102, 7, none⟩) (Kd.R_far (p := ⟨gb102, 6, none⟩) (Kd.R_far (p := ⟨gb102, 5, none⟩) (Kd.R_far (p := ⟨gb102, 4, none⟩) (Kd.R_far (p := ⟨gb102, 3, none⟩) (Kd.R_far (p := ⟨gb102, 2, none⟩) (Kd.R_far (p := ⟨gb102, 1, none⟩) (Kd.R_far (p := ⟨gb102, 0, none⟩) (Kd.R_far (p := ⟨gb103, 2, none⟩) (Kd.R_types (Kd.R_types HO109.out BK103.out (by decide)) BK102.out (by decide)) (fun _ hk => hk.1.2) (.slice Ao44 y107.length co44)) (fun _ hk => hk.2) (.bool false)) (fun _ hk => hk.2) (.int .i64 0)) (fun _ hk => hk.2) (.slice Ao44 y107.length co44)) (fun _ hk => hk.2) (.bool false)) (fun _ hk => hk.2) (.bool false)) (fun _ hk => hk.2) (.bool false)) (fun _ hk => hk.2) (.bool false)) (fun _ hk => hk.2) (.int .i64 0)) (fun _ hk => trivial), qS3 GE101 GE102 GE103 HB.out⟩
          rw [if_neg c38] at H
          have c38b0 : ((Int.tmod a0_0 16) == 5) = false := beq_eq_false_iff_ne.mpr c38
          have c38b1 : ((Int.tmod a0_0 16) != 5) = true := bne_iff_ne.mpr c38
          by_cases c48 : (Int.tmod a0_0 16) = 6
          · rw [if_pos c48] at H
            have c48b0 : ((Int.tmod a0_0 16) == 6) = true := beq_iff_eq.mpr c48
            have c48b1 : ((Int.tmod a0_0 16) != 6) = false := bne_eq_false_iff_eq.mpr c48
            clear c48
            obtain ⟨y110, hy110⟩ : ∃ y_ : List Int, y_ = (([1, wrap64 (2 + (wrap64 (Int.tmod a0_1 2)))] : List Int)) := ⟨_, rfl⟩
            replace H : (some (false, 3, y110, false, false, false, false, 0)) = some (r1, r2, r3, r4, r5, r6, r7, r8) := by first | (rw [hy110]; with_reducible exact H) | (have H2_ := (Option.bind_some _ _).symm.trans H; rw [hy110]; with_reducible exact H2_) | (have H2_ := (Option.bind_some _ _).symm.trans H; with_reducible exact H2_) | with_reducible exact H | (rw [hy110]; exact H) | exact H
            have Ny110 := Aside0.mk hy110
            clear hy110
            simp only [Option.some.injEq, Prod.mk.injEq] at H
            obtain ⟨rfl, rfl, rfl, rfl, rfl, rfl, rfl, rfl⟩ := H
            have hnb49 := NB101_102.out
            have hnc49 := NB102_101.out
            have hnb50 := NB101_103.out
            have hnc50 := NB103_101.out
            have hz51 := cells3 BK101.out
            go_wp2_with (first | ((with_reducible refine gate_dst (N := 52) rfl ?_); refine Kd.R_lit (Kd.int .i64) _ 3 ?hg (N := 52) ?hd (xs := ([1, wrap64 (2 + (wrap64 (Int.tmod a0_1 2)))] : List Int)) (inner := [.int .i64 1, .int .i64 (wrap64 (2 + (wrap64 (Int.tmod a0_1 2))))]) (ok := fun _ => True) (okp := fun _ => True) ?hr ?hp (fun _ hk => hk) trivial (Below.refl _ _) (Nat.le_refl _) (by simp) ?_; (case hd => rfl); (case hg => rfl); (case hr => exact qqj); (case hp => exact (Reps.one (show Kd.M (Kd.int .i64) _ _ _ 1 [.int .i64 1] from rfl) (Reps.one (show Kd.M (Kd.int .i64) _ _ _ (wrap64 (2 + (wrap64 (Int.tmod a0_1 2)))) [.int .i64 (wrap64 (2 + (wrap64 (Int.tmod a0_1 2))))] from rfl) (Reps.none _ _)))); intro v111 w52 ho53 hb hg_ hnew_; clear hg_ hnew_; (first | rw [← Ny110.out] at ho53 | (simp only [Int.reduceToNat] at ho53; rw [← Ny110.out] at ho53)); have HO112 := Aside0.mk (Kd.R_lower ho53 (below_size (qS3 GE101 GE102 GE103 HB.out))); replace BK101 := Aside0.mk (blk_below (bq BK101.out) hb); replace BK102 := Aside0.mk (blk_below (bq BK102.out) hb); replace BK103 := Aside0.mk (blk_below (bq BK103.out) hb); replace HB := Aside0.mk (below_step (qS3 GE101 GE102 GE103 HB.out) hb); clear hb ho53; obtain ⟨Ao54, co54, eo54⟩ := Kd.R_slice HO112.out; subst eo54; have hnb55 := NB103_102.out; have hnc55 := NB102_103.out; have hz56 := cells8 BK103.out; have hz57 := cells8 BK102.out))
            refine bodyPost_ret (results_cell_row rfl _ _ gb102 38 #[.bool false, .int .i64 3, .slice Ao54 y110.length co54, .bool false, .bool false, .bool false, .bool false, .int .i64 0] (0, 0) _ rfl (by refine bq ?_; refine blk_put (cs := #[.bool false, .int .i64 3, .slice Ao54 y110.length co54, .bool false, .bool false, .bool false, .bool false, .int .i64 0]) ?_ 7 _ rfl; refine bq ?_; refine blk_put (cs := #[.bool false, .int .i64 3, .slice Ao54 y110.length co54, .bool false, .bool false, .bool false, .bool false, .int .i64 0]) ?_ 6 _ rfl; refine bq ?_; refine blk_put (cs := #[.bool false, .int .i64 3, .slice Ao54 y110.length co54, .bool false, .bool false, .bool false, .bool false, .int .i64 0]) ?_ 5 _ rfl; refine bq ?_; refine blk_put (cs := #[.bool false, .int .i64 3, .slice Ao54 y110.length co54, .bool false, .bool false, .bool false, .bool false, .int .i64 0]) ?_ 4 _ rfl; refine bq ?_; refine blk_put (cs := #[.bool false, .int .i64 3, .slice Ao54 y110.length co54, .bool false, .bool false, .bool false, .bool false, .int .i64 0]) ?_ 3 _ rfl; refine bq ?_; refine blk_put (cs := #[.bool false, .int .i64 3, .slice none 0 0, .bool false, .bool false, .bool false, .bool false, .int .i64 0]) ?_ 2 _ rfl; refine bq ?_; refine blk_put (cs := #[.bool false, .int .i64 0, .slice none 0 0, .bool false, .bool false, .bool false, .bool false, .int .i64 0]) ?_ 1 _ rfl; refine bq ?_; refine blk_put (cs := #[.bool false, .int .i64 0, .slice none 0 0, .bool false, .bool false, .bool false, .bool false, .int .i64 0]) ?_ 0 _ rfl; refine bq ?_; refine blk_far ?_ NB102_103.out _; refine bq ?_; refine blk_far ?_ NB102_103.out _; exact bq BK102.out) Try.underlying38 rfl (by kernel_rfl)) rfl ?_
            exact ⟨_, qq2, by (with_reducible repeat (first | apply Kd.R_alloc | apply Kd.R_drewN | apply Kd.R_drew)); exact Kd.R_mono (Kd.R_far (p := ⟨gb102, 7, none⟩) (Kd.R_far (p := ⟨gb102, 6, none⟩) (Kd.R_far (p := ⟨gb102, 5, none⟩) (Kd.R_far (p := ⟨gb102, 4, none⟩) (Kd.R_far (p := ⟨gb102, 3, none⟩) (Kd.R_far (p := ⟨gb102, 2, none⟩) (Kd.R_far (p := ⟨gb102, 1, none⟩) (Kd.R_far (p := ⟨gb102, 0, none⟩) (Kd.R_far (p := ⟨gb103, 1, none⟩) (Kd.R_far (p := ⟨gb103, 2, none⟩) (Kd.R_types (Kd.R_types HO112.out BK103.out (by decide)) BK102.out (by decide)) (fun _ hk => hk.1.2) (.slice Ao54 y110.length co54)) (fun _ hk => hk.1.2) (.int .i64 3)) (fun _ hk => hk.2) (.bool false)) (fun _ hk => hk.2) (.int .i64 3)) (fun _ hk => hk.2) (.slice Ao54 y110.length co54)) (fun _ hk => hk.2) (.bool false)) (fun _ hk => hk.2) (.bool false)) (fun _ hk => hk.2) (.bool false)) (fun _ hk => hk.2) (.bool false)) (fun _ hk => hk.2) (.int .i64 0)) (fun _ hk => trivial), qS3 GE101 GE102 GE103 HB.out⟩
          rw [if_neg c48] at H
          have c48b0 : ((Int.tmod a0_0 16) == 6) = false := beq_eq_false_iff_ne.mpr c48
          have c48b1 : ((Int.tmod a0_0 16) != 6) = true := bne_iff_ne.mpr c48
          by_cases c58 : (Int.tmod a0_0 16) = 7
          · rw [if_pos c58] at H
            have c58b0 : ((Int.tmod a0_0 16) == 7) = true := beq_iff_eq.mpr c58
            have c58b1 : ((Int.tmod a0_0 16) != 7) = false := bne_eq_false_iff_eq.mpr c58
            clear c58
            simp only [Option.some.injEq, Prod.mk.injEq] at H
            obtain ⟨rfl, rfl, rfl, rfl, rfl, rfl, rfl, rfl⟩ := H
            have hnb59 := NB103_101.out
            have hnc59 := NB101_103.out
            have hnb60 := NB103_102.out
            have hnc60 := NB102_103.out
            have hz61 := cells8 BK103.out
            have hnb62 := NB102_101.out
            have hnc62 := NB101_102.out
            have hz63 := cells8 BK102.out
            go_wp2
            refine bodyPost_ret (results_cell_row rfl _ _ gb102 38 #[.bool false, .int .i64 0, .slice none 0 0, .bool false, .bool false, .bool false, .bool true, .int .i64 0] (0, 0) _ rfl (by refine bq ?_; refine blk_put (cs := #[.bool false, .int .i64 0, .slice none 0 0, .bool false, .bool false, .bool false, .bool true, .int .i64 0]) ?_ 7 _ rfl; refine bq ?_; refine blk_put (cs := #[.bool false, .int .i64 0, .slice none 0 0, .bool false, .bool false, .bool false, .bool false, .int .i64 0]) ?_ 6 _ rfl; refine bq ?_; refine blk_put (cs := #[.bool false, .int .i64 0, .slice none 0 0, .bool false, .bool false, .bool false, .bool false, .int .i64 0]) ?_ 5 _ rfl; refine bq ?_; refine blk_put (cs := #[.bool false, .int .i64 0, .slice none 0 0, .bool false, .bool false, .bool false, .bool false, .int .i64 0]) ?_ 4 _ rfl; refine bq ?_; refine blk_put (cs := #[.bool false, .int .i64 0, .slice none 0 0, .bool false, .bool false, .bool false, .bool false, .int .i64 0]) ?_ 3 _ rfl; refine bq ?_; refine blk_put (cs := #[.bool false, .int .i64 0, .slice none 0 0, .bool false, .bool false, .bool false, .bool false, .int .i64 0]) ?_ 2 _ rfl; refine bq ?_; refine blk_put (cs := #[.bool false, .int .i64 0, .slice none 0 0, .bool false, .bool false, .bool false, .bool false, .int .i64 0]) ?_ 1 _ rfl; refine bq ?_; refine blk_put (cs := #[.bool false, .int .i64 0, .slice none 0 0, .bool false, .bool false, .bool false, .bool false, .int .i64 0]) ?_ 0 _ rfl; refine bq ?_; refine blk_far ?_ NB102_103.out _; exact bq BK102.out) Try.underlying38 rfl (by kernel_rfl)) rfl ?_
            exact ⟨_, qq2, qqb, qS3 GE101 GE102 GE103 HB.out⟩
          rw [if_neg c58] at H
          have c58b0 : ((Int.tmod a0_0 16) == 7) = false := beq_eq_false_iff_ne.mpr c58
          have c58b1 : ((Int.tmod a0_0 16) != 7) = true := bne_iff_ne.mpr c58
          by_cases c64 : (Int.tmod a0_0 16) = 8
          · rw [if_pos c64] at H
            have c64b0 : ((Int.tmod a0_0 16) == 8) = true := beq_iff_eq.mpr c64
            have c64b1 : ((Int.tmod a0_0 16) != 8) = false := bne_eq_false_iff_eq.mpr c64
            clear c64
            simp only [Option.some.injEq, Prod.mk.injEq] at H
            obtain ⟨rfl, rfl, rfl, rfl, rfl, rfl, rfl, rfl⟩ := H
            have hnb65 := NB103_101.out
            have hnc65 := NB101_103.out
            have hnb66 := NB103_102.out
            have hnc66 := NB102_103.out
            have hz67 := cells8 BK103.out
            have hnb68 := NB102_101.out
            have hnc68 := NB101_102.out
            have hz69 := cells8 BK102.out
            go_wp2
            refine bodyPost_ret (results_cell_row rfl _ _ gb102 38 #[.bool false, .int .i64 0, .slice none 0 0, .bool false, .bool false, .bool true, .bool false, .int .i64 0] (0, 0) _ rfl (by refine bq ?_; refine blk_put (cs := #[.bool false, .int .i64 0, .slice none 0 0, .bool false, .bool false, .bool true, .bool false, .int .i64 0]) ?_ 7 _ rfl; refine bq ?_; refine blk_put (cs := #[.bool false, .int .i64 0, .slice none 0 0, .bool false, .bool false, .bool true, .bool false, .int .i64 0]) ?_ 6 _ rfl; refine bq ?_; refine blk_put (cs := #[.bool false, .int .i64 0, .slice none 0 0, .bool false, .bool false, .bool false, .bool false, .int .i64 0]) ?_ 5 _ rfl; refine bq ?_; refine blk_put (cs := #[.bool false, .int .i64 0, .slice none 0 0, .bool false, .bool false, .bool false, .bool false, .int .i64 0]) ?_ 4 _ rfl; refine bq ?_; refine blk_put (cs := #[.bool false, .int .i64 0, .slice none 0 0, .bool false, .bool false, .bool false, .bool false, .int .i64 0]) ?_ 3 _ rfl; refine bq ?_; refine blk_put (cs := #[.bool false, .int .i64 0, .slice none 0 0, .bool false, .bool false, .bool false, .bool false, .int .i64 0]) ?_ 2 _ rfl; refine bq ?_; refine blk_put (cs := #[.bool false, .int .i64 0, .slice none 0 0, .bool false, .bool false, .bool false, .bool false, .int .i64 0]) ?_ 1 _ rfl; refine bq ?_; refine blk_put (cs := #[.bool false, .int .i64 0, .slice none 0 0, .bool false, .bool false, .bool false, .bool false, .int .i64 0]) ?_ 0 _ rfl; refine bq ?_; refine blk_far ?_ NB102_103.out _; exact bq BK102.out) Try.underlying38 rfl (by kernel_rfl)) rfl ?_
            exact ⟨_, qq2, qqb, qS3 GE101 GE102 GE103 HB.out⟩
          rw [if_neg c64] at H
          have c64b0 : ((Int.tmod a0_0 16) == 8) = false := beq_eq_false_iff_ne.mpr c64
          have c64b1 : ((Int.tmod a0_0 16) != 8) = true := bne_iff_ne.mpr c64
          by_cases c70 : (Int.tmod a0_0 16) = 9
          rotate_left
          · rw [if_neg c70] at H
            have c70b0 : ((Int.tmod a0_0 16) == 9) = false := beq_eq_false_iff_ne.mpr c70
            have c70b1 : ((Int.tmod a0_0 16) != 9) = true := bne_iff_ne.mpr c70
            simp only [Option.some.injEq, Prod.mk.injEq] at H
            obtain ⟨rfl, rfl, rfl, rfl, rfl, rfl, rfl, rfl⟩ := H
            have hnb77 := NB103_101.out
            have hnc77 := NB101_103.out
            have hnb78 := NB103_102.out
            have hnc78 := NB102_103.out
            have hz79 := cells8 BK103.out
            have hnb80 := NB102_101.out
            have hnc80 := NB101_102.out
            have hz81 := cells8 BK102.out
            go_wp2
            refine bodyPost_ret (results_cell_row rfl _ _ gb102 38 #[.bool false, .int .i64 0, .slice none 0 0, .bool false, .bool false, .bool false, .bool false, .int .i64 0] (0, 0) _ rfl (by refine bq ?_; refine blk_put (cs := #[.bool false, .int .i64 0, .slice none 0 0, .bool false, .bool false, .bool false, .bool false, .int .i64 0]) ?_ 7 _ rfl; refine bq ?_; refine blk_put (cs := #[.bool false, .int .i64 0, .slice none 0 0, .bool false, .bool false, .bool false, .bool false, .int .i64 0]) ?_ 6 _ rfl; refine bq ?_; refine blk_put (cs := #[.bool false, .int .i64 0, .slice none 0 0, .bool false, .bool false, .bool false, .bool false, .int .i64 0]) ?_ 5 _ rfl; refine bq ?_; refine blk_put (cs := #[.bool false, .int .i64 0, .slice none 0 0, .bool false, .bool false, .bool false, .bool false, .int .i64 0]) ?_ 4 _ rfl; refine bq ?_; refine blk_put (cs := #[.bool false, .int .i64 0, .slice none 0 0, .bool false, .bool false, .bool false, .bool false, .int .i64 0]) ?_ 3 _ rfl; refine bq ?_; refine blk_put (cs := #[.bool false, .int .i64 0, .slice none 0 0, .bool false, .bool false, .bool false, .bool false, .int .i64 0]) ?_ 2 _ rfl; refine bq ?_; refine blk_put (cs := #[.bool false, .int .i64 0, .slice none 0 0, .bool false, .bool false, .bool false, .bool false, .int .i64 0]) ?_ 1 _ rfl; refine bq ?_; refine blk_put (cs := #[.bool false, .int .i64 0, .slice none 0 0, .bool false, .bool false, .bool false, .bool false, .int .i64 0]) ?_ 0 _ rfl; exact bq BK102.out) Try.underlying38 rfl (by kernel_rfl)) rfl ?_
            exact ⟨_, qq2, qqb, qS3 GE101 GE102 GE103 HB.out⟩
          rw [if_pos c70] at H
          have c70b0 : ((Int.tmod a0_0 16) == 9) = true := beq_iff_eq.mpr c70
          have c70b1 : ((Int.tmod a0_0 16) != 9) = false := bne_eq_false_iff_eq.mpr c70
          clear c70
          simp only [Option.some.injEq, Prod.mk.injEq] at H
          obtain ⟨rfl, rfl, rfl, rfl, rfl, rfl, rfl, rfl⟩ := H
          have hnb71 := NB103_101.out
          have hnc71 := NB101_103.out
          have hnb72 := NB103_102.out
          have hnc72 := NB102_103.out
          have hz73 := cells8 BK103.out
          have hnb74 := NB101_102.out
          have hnc74 := NB102_101.out
          have hz75 := cells3 BK101.out
          have hz76 := cells8 BK102.out
          go_wp2
          refine bodyPost_ret (results_cell_row rfl _ _ gb102 38 #[.bool true, .int .i64 (wrap64 (2 + (wrap64 (Int.tmod a0_1 8)))), .slice none 0 0, .bool false, .bool false, .bool false, .bool false, .int .i64 0] (0, 0) _ rfl (by refine bq ?_; refine blk_put (cs := #[.bool true, .int .i64 (wrap64 (2 + (wrap64 (Int.tmod a0_1 8)))), .slice none 0 0, .bool false, .bool false, .bool false, .bool false, .int .i64 0]) ?_ 7 _ rfl; refine bq ?_; refine blk_put (cs := #[.bool true, .int .i64 (wrap64 (2 + (wrap64 (Int.tmod a0_1 8)))), .slice none 0 0, .bool false, .bool false, .bool false, .bool false, .int .i64 0]) ?_ 6 _ rfl; refine bq ?_; refine blk_put (cs := #[.bool true, .int .i64 (wrap64 (2 + (wrap64 (Int.tmod a0_1 8)))), .slice none 0 0, .bool false, .bool false, .bool false, .bool false, .int .i64 0]) ?_ 5 _ rfl; refine bq ?_; refine blk_put (cs := #[.bool true, .int .i64 (wrap64 (2 + (wrap64 (Int.tmod a0_1 8)))), .slice none 0 0, .bool false, .bool false, .bool false, .bool false, .int .i64 0]) ?_ 4 _ rfl; refine bq ?_; refine blk_put (cs := #[.bool true, .int .i64 (wrap64 (2 + (wrap64 (Int.tmod a0_1 8)))), .slice none 0 0, .bool false, .bool false, .bool false, .bool false, .int .i64 0]) ?_ 3 _ rfl; refine bq ?_; refine blk_put (cs := #[.bool true, .int .i64 (wrap64 (2 + (wrap64 (Int.tmod a0_1 8)))), .slice none 0 0, .bool false, .bool false, .bool false, .bool false, .int .i64 0]) ?_ 2 _ rfl; refine bq ?_; refine blk_put (cs := #[.bool true, .int .i64 0, .slice none 0 0, .bool false, .bool false, .bool false, .bool false, .int .i64 0]) ?_ 1 _ rfl; refine bq ?_; refine blk_put (cs := #[.bool false, .int .i64 0, .slice none 0 0, .bool false, .bool false, .bool false, .bool false, .int .i64 0]) ?_ 0 _ rfl; refine bq ?_; refine blk_far ?_ NB102_103.out _; refine bq ?_; refine blk_far ?_ NB102_103.out _; exact bq BK102.out) Try.underlying38 rfl (by kernel_rfl)) rfl ?_
          exact ⟨_, qq2, qqb, qS3 GE101 GE102 GE103 HB.out⟩
mutual
def partitalaw10_Made.j1 : Nat → Int → Int → Int → Int → List (S38) → Option ((List (S38)))
  | 0, _, _, _, _, _ => none
  | k + 1, x1, x2, x3, x4, x11 => if (x11.length : Int) = 0 then (partitalaw10_Made.j2 k x1 x2 x3 x4 x11 (x11.length : Int) true) else (partitalaw10_Made.j2 k x1 x2 x3 x4 x11 (x11.length : Int) ((Int.tmod x1 7) == 0))
def partitalaw10_Made.j2 : Nat → Int → Int → Int → Int → List (S38) → Int → Bool → Option ((List (S38)))
  | 0, _, _, _, _, _, _, _ => none
  | k + 1, x1, x2, x3, x4, x11, x13, x41 => if x41 = true then (some x11) else (if x13 = 0 then (none) else (if 0 ≤ (Int.tmod (wrap64 (x2)) x13) then (if (Int.tmod (wrap64 (x2)) x13) < (x11.length : Int) then ((some (x11.set ((Int.tmod (wrap64 (x2)) x13) : Int).toNat (⟨(rd_T38 x11 (Int.tmod (wrap64 (x2)) x13)).f0, (rd_T38 x11 (Int.tmod (wrap64 (x2)) x13)).f1, (rd_T38 x11 (Int.tmod (wrap64 (x2)) x13)).f2, (rd_T38 x11 (Int.tmod (wrap64 (x2)) x13)).f3, (rd_T38 x11 (Int.tmod (wrap64 (x2)) x13)).f4, (rd_T38 x11 (Int.tmod (wrap64 (x2)) x13)).f5, (rd_T38 x11 (Int.tmod (wrap64 (x2)) x13)).f6, wrap64 (Int.tmod x1 7)⟩ : S38) : List (S38))).bind fun y115 => (if (wrap64 (Int.tmod x1 7)) ≥ 4 then (if 0 ≤ (Int.tmod (wrap64 (x3)) x13) then (if (Int.tmod (wrap64 (x3)) x13) < (x11.length : Int) then (partitalaw10_Made.j3 k x3 x4 (y115.set ((Int.tmod (wrap64 (x3)) x13) : Int).toNat (⟨(rd_T38 y115 (Int.tmod (wrap64 (x3)) x13)).f0, (rd_T38 y115 (Int.tmod (wrap64 (x3)) x13)).f1, (rd_T38 y115 (Int.tmod (wrap64 (x3)) x13)).f2, true, (rd_T38 y115 (Int.tmod (wrap64 (x3)) x13)).f4, (rd_T38 y115 (Int.tmod (wrap64 (x3)) x13)).f5, (rd_T38 y115 (Int.tmod (wrap64 (x3)) x13)).f6, (rd_T38 y115 (Int.tmod (wrap64 (x3)) x13)).f7⟩ : S38)) x13 (wrap64 (Int.tmod x1 7))) else (none)) else (none)) else (partitalaw10_Made.j3 k x3 x4 y115 x13 (wrap64 (Int.tmod x1 7))))) else (none)) else (none)))
def partitalaw10_Made.j3 : Nat → Int → Int → List (S38) → Int → Int → Option ((List (S38)))
  | 0, _, _, _, _, _ => none
  | k + 1, x3, x4, x11, x13, x14 => if x14 = 2 then (partitalaw10_Made.j4 k x3 x4 x11 x13 x14 true) else (partitalaw10_Made.j4 k x3 x4 x11 x13 x14 (x14 == 5))
def partitalaw10_Made.j4 : Nat → Int → Int → List (S38) → Int → Int → Bool → Option ((List (S38)))
  | 0, _, _, _, _, _, _ => none
  | k + 1, x3, x4, x11, x13, x14, x68 => if x68 = true then (if x13 = 0 then (none) else (if 0 ≤ (((Int.tdiv x3 2) % 256) % x13) then (if (((Int.tdiv x3 2) % 256) % x13) < (x11.length : Int) then (partitalaw10_Made.j5 k x4 (x11.set ((((Int.tdiv x3 2) % 256) % x13) : Int).toNat (⟨(rd_T38 x11 (((Int.tdiv x3 2) % 256) % x13)).f0, (rd_T38 x11 (((Int.tdiv x3 2) % 256) % x13)).f1, (rd_T38 x11 (((Int.tdiv x3 2) % 256) % x13)).f2, (rd_T38 x11 (((Int.tdiv x3 2) % 256) % x13)).f3, (rd_T38 x11 (((Int.tdiv x3 2) % 256) % x13)).f4, (rd_T38 x11 (((Int.tdiv x3 2) % 256) % x13)).f5, true, (rd_T38 x11 (((Int.tdiv x3 2) % 256) % x13)).f7⟩ : S38)) x13 x14) else (none)) else (none))) else (partitalaw10_Made.j5 k x4 x11 x13 x14)
def partitalaw10_Made.j5 : Nat → Int → List (S38) → Int → Int → Option ((List (S38)))
  | 0, _, _, _, _ => none
  | k + 1, x4, x11, x13, x14 => if x14 = 3 then (if x13 = 0 then (none) else (if 0 ≤ (Int.tmod (wrap64 (x4)) x13) then (if (Int.tmod (wrap64 (x4)) x13) < (x11.length : Int) then ((some (x11.set ((Int.tmod (wrap64 (x4)) x13) : Int).toNat (⟨(rd_T38 x11 (Int.tmod (wrap64 (x4)) x13)).f0, (rd_T38 x11 (Int.tmod (wrap64 (x4)) x13)).f1, (rd_T38 x11 (Int.tmod (wrap64 (x4)) x13)).f2, (rd_T38 x11 (Int.tmod (wrap64 (x4)) x13)).f3, true, (rd_T38 x11 (Int.tmod (wrap64 (x4)) x13)).f5, (rd_T38 x11 (Int.tmod (wrap64 (x4)) x13)).f6, (rd_T38 x11 (Int.tmod (wrap64 (x4)) x13)).f7⟩ : S38) : List (S38))).bind fun y118 => (if 0 ≤ (((Int.tdiv x4 3) % 256) % x13) then (if (((Int.tdiv x4 3) % 256) % x13) < (x11.length : Int) then (some (y118.set ((((Int.tdiv x4 3) % 256) % x13) : Int).toNat (⟨(rd_T38 y118 (((Int.tdiv x4 3) % 256) % x13)).f0, (rd_T38 y118 (((Int.tdiv x4 3) % 256) % x13)).f1, (rd_T38 y118 (((Int.tdiv x4 3) % 256) % x13)).f2, (rd_T38 y118 (((Int.tdiv x4 3) % 256) % x13)).f3, (rd_T38 y118 (((Int.tdiv x4 3) % 256) % x13)).f4, true, (rd_T38 y118 (((Int.tdiv x4 3) % 256) % x13)).f6, (rd_T38 y118 (((Int.tdiv x4 3) % 256) % x13)).f7⟩ : S38))) else (none)) else (none))) else (none)) else (none))) else (if x14 = 6 then (if x13 = 0 then (none) else (if 0 ≤ (Int.tmod (wrap64 (x4)) x13) then (if (Int.tmod (wrap64 (x4)) x13) < (x11.length : Int) then ((some (x11.set ((Int.tmod (wrap64 (x4)) x13) : Int).toNat (⟨(rd_T38 x11 (Int.tmod (wrap64 (x4)) x13)).f0, (rd_T38 x11 (Int.tmod (wrap64 (x4)) x13)).f1, (rd_T38 x11 (Int.tmod (wrap64 (x4)) x13)).f2, (rd_T38 x11 (Int.tmod (wrap64 (x4)) x13)).f3, true, (rd_T38 x11 (Int.tmod (wrap64 (x4)) x13)).f5, (rd_T38 x11 (Int.tmod (wrap64 (x4)) x13)).f6, (rd_T38 x11 (Int.tmod (wrap64 (x4)) x13)).f7⟩ : S38) : List (S38))).bind fun y120 => (if 0 ≤ (((Int.tdiv x4 3) % 256) % x13) then (if (((Int.tdiv x4 3) % 256) % x13) < (x11.length : Int) then (some (y120.set ((((Int.tdiv x4 3) % 256) % x13) : Int).toNat (⟨(rd_T38 y120 (((Int.tdiv x4 3) % 256) % x13)).f0, (rd_T38 y120 (((Int.tdiv x4 3) % 256) % x13)).f1, (rd_T38 y120 (((Int.tdiv x4 3) % 256) % x13)).f2, (rd_T38 y120 (((Int.tdiv x4 3) % 256) % x13)).f3, (rd_T38 y120 (((Int.tdiv x4 3) % 256) % x13)).f4, true, (rd_T38 y120 (((Int.tdiv x4 3) % 256) % x13)).f6, (rd_T38 y120 (((Int.tdiv x4 3) % 256) % x13)).f7⟩ : S38))) else (none)) else (none))) else (none)) else (none))) else (some x11))
def partitalaw10_Made.l0 : Nat → List (S46) → Int → Int → Int → Int → List (S38) → Int → Option ((List (S38)))
  | 0, _, _, _, _, _, _, _ => none
  | k + 1, x0, x1, x2, x3, x4, x11, x12 => if x12 < (x0.length : Int) then (if x12 < 30 then (if 0 ≤ x12 then ((partitalaw10_Turn_turn.f k ((rd_T46 x0 x12).f0) ((rd_T46 x0 x12).f1) ((rd_T46 x0 x12).f2)).bind fun bt102 => (if x11.length < 2513169434916 then (partitalaw10_Made.l0 k x0 x1 x2 x3 x4 (x11 ++ [(⟨bt102.1, bt102.2.1, bt102.2.2.1, bt102.2.2.2.1, bt102.2.2.2.2.1, bt102.2.2.2.2.2.1, bt102.2.2.2.2.2.2.1, bt102.2.2.2.2.2.2.2⟩ : S38)]) (wrap64 (x12 + 1))) else (none))) else (none)) else (partitalaw10_Made.j1 k x1 x2 x3 x4 x11)) else (partitalaw10_Made.j1 k x1 x2 x3 x4 x11)
end
def partitalaw10_Made.f (k : Nat) (l0 : List (S46)) (a1 : Int) (a2 : Int) (a3 : Int) (a4 : Int) : Option ((List (S38))) := partitalaw10_Made.l0 k l0 a1 a2 a3 a4 ([] : List (S38)) 0
theorem partitalaw10_Made.mono_l : ∀ k, (∀ y0 y1 y2 y3 y4, LeO (partitalaw10_Made.j1 k y0 y1 y2 y3 y4) (partitalaw10_Made.j1 (k + 1) y0 y1 y2 y3 y4)) ∧ (∀ y0 y1 y2 y3 y4 y5 y6, LeO (partitalaw10_Made.j2 k y0 y1 y2 y3 y4 y5 y6) (partitalaw10_Made.j2 (k + 1) y0 y1 y2 y3 y4 y5 y6)) ∧ (∀ y0 y1 y2 y3 y4, LeO (partitalaw10_Made.j3 k y0 y1 y2 y3 y4) (partitalaw10_Made.j3 (k + 1) y0 y1 y2 y3 y4)) ∧ (∀ y0 y1 y2 y3 y4 y5, LeO (partitalaw10_Made.j4 k y0 y1 y2 y3 y4 y5) (partitalaw10_Made.j4 (k + 1) y0 y1 y2 y3 y4 y5)) ∧ (∀ y0 y1 y2 y3, LeO (partitalaw10_Made.j5 k y0 y1 y2 y3) (partitalaw10_Made.j5 (k + 1) y0 y1 y2 y3)) ∧ (∀ y0 y1 y2 y3 y4 y5 y6, LeO (partitalaw10_Made.l0 k y0 y1 y2 y3 y4 y5 y6) (partitalaw10_Made.l0 (k + 1) y0 y1 y2 y3 y4 y5 y6))
  | 0 => ⟨fun _ _ _ _ _ r h => by simp [partitalaw10_Made.j1] at h, fun _ _ _ _ _ _ _ r h => by simp [partitalaw10_Made.j2] at h, fun _ _ _ _ _ r h => by simp [partitalaw10_Made.j3] at h, fun _ _ _ _ _ _ r h => by simp [partitalaw10_Made.j4] at h, fun _ _ _ _ r h => by simp [partitalaw10_Made.j5] at h, fun _ _ _ _ _ _ _ r h => by simp [partitalaw10_Made.l0] at h⟩
  | k + 1 => by
    obtain ⟨ih0, ih1, ih2, ih3, ih4, ih5⟩ := partitalaw10_Made.mono_l k
    refine ⟨?_, ?_, ?_, ?_, ?_, ?_⟩
    · intro y0 y1 y2 y3 y4
      unfold partitalaw10_Made.j1
      repeat' first
      | (with_reducible exact ih1 _ _ _ _ _ _ _)
      | (with_reducible refine LeO.ite ?_ ?_)
    · intro y0 y1 y2 y3 y4 y5 y6
      unfold partitalaw10_Made.j2
      repeat' first
      | (with_reducible exact ih2 _ _ _ _ _)
      | (with_reducible exact LeO.refl _)
      | (with_reducible refine LeO.ite ?_ ?_)
      | (with_reducible refine LeO.bind ?_ (fun _ => ?_))
    · intro y0 y1 y2 y3 y4
      unfold partitalaw10_Made.j3
      repeat' first
      | (with_reducible exact ih3 _ _ _ _ _ _)
      | (with_reducible refine LeO.ite ?_ ?_)
    · intro y0 y1 y2 y3 y4 y5
      unfold partitalaw10_Made.j4
      repeat' first
      | (with_reducible exact ih4 _ _ _ _)
      | (with_reducible exact LeO.refl _)
      | (with_reducible refine LeO.ite ?_ ?_)
    · intro y0 y1 y2 y3
      unfold partitalaw10_Made.j5
      repeat' first
      | (with_reducible exact LeO.refl _)
    · intro y0 y1 y2 y3 y4 y5 y6
      unfold partitalaw10_Made.l0
      repeat' first
      | (with_reducible exact ih0 _ _ _ _ _)
      | (with_reducible exact ih5 _ _ _ _ _ _ _)
      | (with_reducible exact partitalaw10_Turn_turn.mono _ _ _ _)
      | (with_reducible exact LeO.refl _)
      | (with_reducible refine LeO.ite ?_ ?_)
      | (with_reducible refine LeO.bind ?_ (fun _ => ?_))
theorem partitalaw10_Made.mono : ∀ a0 a1 a2 a3 a4 k, LeO (partitalaw10_Made.f k a0 a1 a2 a3 a4) (partitalaw10_Made.f (k + 1) a0 a1 a2 a3 a4) := by
  intro a0 a1 a2 a3 a4 k
  obtain ⟨ih0, ih1, ih2, ih3, ih4, ih5⟩ := partitalaw10_Made.mono_l k
  unfold partitalaw10_Made.f
  repeat' first
      | (with_reducible exact ih5 _ _ _ _ _ _ _)
set_option maxHeartbeats 8000000 in
set_option maxRecDepth 100000 in
theorem partitalaw10_Made.calls (k : Nat) (A0 : Option Addr) (c0 : Nat) (l0 : List (S46)) (a1 : Int) (a2 : Int) (a3 : Int) (a4 : Int) (r : List (S38)) (w : World) (hr0 : Kd.C k46 w A0 l0.length l0) (hc0 : l0.length ≤ c0) (h : partitalaw10_Made.f k l0 a1 a2 a3 a4 = some r) :
    Calls Try.prog 12 #[.slice A0 l0.length c0, .int .u8 a1, .int .u8 a2, .int .u8 a3, .int .u8 a4] w fun e w' => ∃ v0_ : Value, e = .returned (v0_) ∧ Kd.S k38 38 w' w.heap.size (fun _ => True) v0_ r ∧ Below w.heap.size w w' := by
  have hu46 := Try.underlying46
  have HR0 := Aside0.mk hr0
  have HC0 := Aside0.mk hc0
  clear hr0 hc0
  have HB := Aside0.mk (Below.refl w.heap.size w)
  have H := h
  unfold partitalaw10_Made.f at H
  clear h
  have HC6 := Aside0.mk H
  clear H
  go_enter Try.func12, Try.ntmps12
  go_upto_block 0 with (fail)
  go_cut [11] (fun v11 wc => ∃ (kq : Nat) (x11_5 : List (S38)), Aside0 (partitalaw10_Made.j1 kq a1 a2 a3 a4 x11_5 = some r) ∧ Aside0 (kq ≤ k) ∧ Aside0 (Kd.S k38 38 wc w.heap.size (fun _ => True) v11 x11_5) ∧ Aside0 (Below w.heap.size w wc))
  case first =>
    have H := HC6.out
    clear HC6
    have H' := Aside0.mk H
    clear H
    go_wp2
    go_loopg [11, 12] k (fun kq v11 v12 w' => ∃ (x11_1 : List (S38)) (x12_1 : Int), v12 = .int .i64 x12_1 ∧ Aside0 (partitalaw10_Made.l0 kq l0 a1 a2 a3 a4 x11_1 x12_1 = some r) ∧ Aside0 (kq ≤ k) ∧ Aside0 (Kd.S k38 38 w' w.heap.size (fun _ => True) v11 x11_1) ∧ Aside0 (Below w.heap.size w w'))
    case atStart => exact ⟨(([] : List (S38))), (0), (by first | rfl), H', ⟨Nat.le_refl _⟩, ⟨by first | exact Kd.S_nil _ _ _ _ _⟩, ⟨qB HB.out⟩⟩
    case round =>
      clear H'
      obtain ⟨x11_1, x12_1, rfl, HA, HK1, HO_11, HB⟩ := hrel
      cases gk with
      | zero => exact absurd HA.out (by simp [partitalaw10_Made.l0])
      | succ k1 =>
        have H := HA.out
        clear HA
        simp only [partitalaw10_Made.l0] at H
        by_cases c7 : x12_1 < (l0.length : Int)
        rotate_left
        · rw [if_neg c7] at H
          have c7b0 : decide (x12_1 < (l0.length : Int)) = false := decide_eq_false c7
          clear c7
          (first | skip)
          have H' := Aside0.mk H
          clear H
          go_wp2
          go_meet
          case rel => exact ⟨_, (x11_1), H', ⟨qqf⟩, ⟨qS HO_11.out⟩, ⟨qB HB.out⟩⟩
        rw [if_pos c7] at H
        have c7b0 : decide (x12_1 < (l0.length : Int)) = true := decide_eq_true c7
        clear c7
        (first | skip)
        by_cases c8 : x12_1 < 30
        rotate_left
        · rw [if_neg c8] at H
          have c8b0 : decide (x12_1 < 30) = false := decide_eq_false c8
          clear c8
          have H' := Aside0.mk H
          clear H
          go_wp2
          go_meet
          case rel => exact ⟨_, (x11_1), H', ⟨qqf⟩, ⟨qS HO_11.out⟩, ⟨qB HB.out⟩⟩
        rw [if_pos c8] at H
        have c8b0 : decide (x12_1 < 30) = true := decide_eq_true c8
        clear c8
        by_cases c9 : 0 ≤ x12_1
        rotate_left
        · rw [if_neg c9] at H
          exact absurd H (by simp)
        rw [if_pos c9] at H
        have c9b0 : decide (0 ≤ x12_1) = true := decide_eq_true c9
        clear c9
        replace H := Option.bind_eq_some_iff.mp H
        obtain ⟨⟨t102, t103, t104, t107, t108, t109, t110, t111⟩, A100, H⟩ := H
        have A10 := Aside0.mk A100
        clear A100
        by_cases c11 : x11_1.length < 2513169434916
        rotate_left
        · rw [if_neg c11] at H
          exact absurd H (by simp)
        rw [if_pos c11] at H
        have LMc11 := Aside0.mk c11
        clear c11
        obtain ⟨y112, hy112⟩ : ∃ y_ : List (S38), y_ = (x11_1 ++ [(⟨t102, t103, t104, t107, t108, t109, t110, t111⟩ : S38)]) := ⟨_, rfl⟩
        replace H : (partitalaw10_Made.l0 k1 l0 a1 a2 a3 a4 y112 (wrap64 (x12_1 + 1))) = some r := by first | (rw [hy112]; with_reducible exact H)
        have Ny112 := Aside0.mk hy112
        clear hy112
        have H' := Aside0.mk H
        clear H
        have p101 : 0 ≤ (x12_1 : Int) := of_decide_eq_true qqp
        have q101 : x12_1 < (l0.length : Int) := of_decide_eq_true qqp
        obtain ⟨ad101, e101, hx101_0, hx101_1, hx101_2⟩ := at_T46 HR0.out x12_1 p101 q101
        cases e101
        replace hx101_0 := (HB.out.cell (World.block_lt_of_cell? w _ hx101_0)).trans hx101_0
        replace hx101_1 := (HB.out.cell (World.block_lt_of_cell? w _ hx101_1)).trans hx101_1
        replace hx101_2 := (HB.out.cell (World.block_lt_of_cell? w _ hx101_2)).trans hx101_2
        replace p101 := eq_true p101
        replace q101 := eq_true q101
        go_wp2_with (first | ((with_reducible refine gate_callee (f := 22) rfl ?_); refine goesL_ (some 30) rfl rfl Try.func22 (by kernel_rfl) rfl #[.agg #[.int .u8 ((rd_T46 l0 x12_1).f0), .int .u8 ((rd_T46 l0 x12_1).f1), .int .u8 ((rd_T46 l0 x12_1).f2)]] rfl qq4 ?_; (with_reducible refine (partitalaw10_Turn_turn.calls k1 ((rd_T46 l0 x12_1).f0) ((rd_T46 l0 x12_1).f1) ((rd_T46 l0 x12_1).f2) t102 t103 t104 t107 t108 t109 t110 t111 _ A10.out).mono ?_); rintro e w12 ⟨v105, rfl, ho0, hb⟩; refine ⟨_, rfl, ?_⟩; replace HO_11 := Aside0.mk (Kd.S_elder' (qS HO_11.out) (Kd.R_base ho0) hb); have HO106 := Aside0.mk (Kd.R_lower ho0 (below_size (qB HB.out))); replace HB := Aside0.mk (below_step (qB HB.out) hb); obtain ⟨Ao14, co14, eo14⟩ := Kd.R_slice HO106.out; subst eo14) | ((with_reducible refine gate_builtin (b := .append) (xs := #[.tmp 25, .tmp 31]) rfl ?_); at_builtin; refine Kd.S_append k38 (w0 := w) w.heap.size rfl (.tmp 25) (.tmp 31) 22 38 (.agg #[(.bool false), (.int .i64 0), (.slice none 0 0), (.bool false), (.bool false), (.bool false), (.bool false), (.int .i64 0)]) 56 rfl Try.underlying22 info38 rfl (by decide) (by omega) u11 x11_1 (⟨t102, t103, t104, t107, t108, t109, t110, t111⟩ : S38) [.bool t102, .int .i64 t103, .slice Ao14 t104.length co14, .bool t107, .bool t108, .bool t109, .bool t110, .int .i64 t111] (fun _ => True) (fun k_ => some k_ = (.slice Ao14 t104.length co14 : Value).ownBlock) rfl rfl ?aP (fun k_ hk_ => ((Kd.R_mono (ok' := fun k_ => ((fun _ => True)) k_ ∧ some k_ ≠ (u11 : Value).ownBlock) (Kd.R_apart' (HO106.out) (Kd.S_typed HO_11.out) (by decide)) (fun k_ hk => ⟨trivial, hk.2⟩))).1 k_ hk_.symm) ?aF ?aO ?aB ?aS ?aL ?_; (case aP => exact k38_mkM _ _ _ (⟨t102, t103, t104, t107, t108, t109, t110, t111⟩ : S38) (Kd.R_mono (Kd.R_tight rfl (Kd.R_mono (ok' := fun k_ => ((fun _ => True)) k_ ∧ some k_ ≠ (u11 : Value).ownBlock) (Kd.R_apart' (HO106.out) (Kd.S_typed HO_11.out) (by decide)) (fun k_ hk => ⟨trivial, hk.2⟩))) (fun _ h_ => h_))); (case aB => exact (qB HB.out)); (case aF => exact (fun _ _ => trivial)); (case aO => exact (by (with_reducible repeat (first | apply Kd.S_alloc | apply Kd.S_drewN | apply Kd.S_drew)); exact Kd.S_mono HO_11.out (fun k_ hk => ⟨trivial, fun e_ => hk.2 e_⟩))); (case aS => exact (below_size (qB HB.out))); (case aL => have := LMc11.out; omega); intro v113 w13 ho hb hg hat; rw [← Ny112.out] at ho; replace HB := Aside0.mk (hb); have HO114 := Aside0.mk (ho); clear HO_11 HO106; clear ho hb hg hat))
        go_roundg k1
        case measure => have := HK1.out; omega
        case rel => exact ⟨(y112), (wrap64 (x12_1 + 1)), (by first | rfl), H', ⟨qqP⟩, ⟨qS HO114.out⟩, ⟨qB HB.out⟩⟩
  case rest =>
    clear HC6
    obtain ⟨kq, x11_5, HA, HJ5, HO_11, HB⟩ := hcut
    cases kq with
    | zero => exact absurd HA.out (by simp [partitalaw10_Made.j1])
    | succ kj5 =>
      have H := HA.out
      clear HA
      simp only [partitalaw10_Made.j1] at H
      have HC15 := Aside0.mk H
      clear H
      obtain ⟨Ao16, co16, eo16⟩ := Kd.S_slice HO_11.out
      subst eo16
      go_upto_region 7 with (fail)
      go_cut [41] (fun v41 wc => ∃ (kq : Nat) (x41_14 : Bool), v41 = .bool x41_14 ∧ Aside0 (partitalaw10_Made.j2 kq a1 a2 a3 a4 x11_5 (x11_5.length : Int) x41_14 = some r) ∧ Aside0 (kq ≤ kj5) ∧ Aside0 (Kd.S k38 38 wc w.heap.size (fun _ => True) (.slice Ao16 x11_5.length co16) x11_5) ∧ Aside0 (Below w.heap.size w wc))
      case first =>
        have H := HC15.out
        clear HC15
        by_cases c17 : (x11_5.length : Int) = 0
        · rw [if_pos c17] at H
          have c17b0 : ((x11_5.length : Int) == 0) = true := beq_iff_eq.mpr c17
          have c17b1 : ((x11_5.length : Int) != 0) = false := bne_eq_false_iff_eq.mpr c17
          clear c17
          (first | skip)
          have H' := Aside0.mk H
          clear H
          go_wp2
          go_meet
          case rel => exact ⟨_, (true), (by first | rfl), H', ⟨by have := HJ5.out; first | omega⟩, ⟨qS HO_11.out⟩, ⟨qB HB.out⟩⟩
        rw [if_neg c17] at H
        have c17b0 : ((x11_5.length : Int) == 0) = false := beq_eq_false_iff_ne.mpr c17
        have c17b1 : ((x11_5.length : Int) != 0) = true := bne_iff_ne.mpr c17
        have c17b2 : ¬ (x11_5 = []) := fun h_ => c17 (by rw [h_]; rfl)
        (first | skip)
        have H' := Aside0.mk H
        clear H
        go_wp2
        go_meet
        case rel => exact ⟨_, (((Int.tmod a1 7) == 0)), (by first | rfl), H', ⟨by have := HJ5.out; first | omega⟩, ⟨qS HO_11.out⟩, ⟨qB HB.out⟩⟩
      case rest =>
        clear HC15
        obtain ⟨kq, x41_14, rfl, HA, HJ14, HO_11, HB⟩ := hcut
        cases kq with
        | zero => exact absurd HA.out (by simp [partitalaw10_Made.j2])
        | succ kj14 =>
          have H := HA.out
          clear HA
          simp only [partitalaw10_Made.j2] at H
          by_cases c18 : x41_14 = true
          · subst c18
            have H1 : (some x11_5) = some r := by rw [if_pos rfl] at H; exact H
            clear H
            have H := H1
            clear H1
            obtain rfl := Option.some.inj H
            go_wp2
            go_ret
            exact ⟨_, by first | rfl, qqk, qB HB.out⟩
          replace c18 := Bool.eq_false_iff.mpr c18
          subst c18
          have H1 : (if (x11_5.length : Int) = 0 then (none) else (if 0 ≤ (Int.tmod (wrap64 (a2)) (x11_5.length : Int)) then (if (Int.tmod (wrap64 (a2)) (x11_5.length : Int)) < (x11_5.length : Int) then ((some (x11_5.set ((Int.tmod (wrap64 (a2)) (x11_5.length : Int)) : Int).toNat (⟨(rd_T38 x11_5 (Int.tmod (wrap64 (a2)) (x11_5.length : Int))).f0, (rd_T38 x11_5 (Int.tmod (wrap64 (a2)) (x11_5.length : Int))).f1, (rd_T38 x11_5 (Int.tmod (wrap64 (a2)) (x11_5.length : Int))).f2, (rd_T38 x11_5 (Int.tmod (wrap64 (a2)) (x11_5.length : Int))).f3, (rd_T38 x11_5 (Int.tmod (wrap64 (a2)) (x11_5.length : Int))).f4, (rd_T38 x11_5 (Int.tmod (wrap64 (a2)) (x11_5.length : Int))).f5, (rd_T38 x11_5 (Int.tmod (wrap64 (a2)) (x11_5.length : Int))).f6, wrap64 (Int.tmod a1 7)⟩ : S38) : List (S38))).bind fun y115 => (if (wrap64 (Int.tmod a1 7)) ≥ 4 then (if 0 ≤ (Int.tmod (wrap64 (a3)) (x11_5.length : Int)) then (if (Int.tmod (wrap64 (a3)) (x11_5.length : Int)) < (x11_5.length : Int) then (partitalaw10_Made.j3 kj14 a3 a4 (y115.set ((Int.tmod (wrap64 (a3)) (x11_5.length : Int)) : Int).toNat (⟨(rd_T38 y115 (Int.tmod (wrap64 (a3)) (x11_5.length : Int))).f0, (rd_T38 y115 (Int.tmod (wrap64 (a3)) (x11_5.length : Int))).f1, (rd_T38 y115 (Int.tmod (wrap64 (a3)) (x11_5.length : Int))).f2, true, (rd_T38 y115 (Int.tmod (wrap64 (a3)) (x11_5.length : Int))).f4, (rd_T38 y115 (Int.tmod (wrap64 (a3)) (x11_5.length : Int))).f5, (rd_T38 y115 (Int.tmod (wrap64 (a3)) (x11_5.length : Int))).f6, (rd_T38 y115 (Int.tmod (wrap64 (a3)) (x11_5.length : Int))).f7⟩ : S38)) (x11_5.length : Int) (wrap64 (Int.tmod a1 7))) else (none)) else (none)) else (partitalaw10_Made.j3 kj14 a3 a4 y115 (x11_5.length : Int) (wrap64 (Int.tmod a1 7))))) else (none)) else (none))) = some r := by rw [if_neg (show ¬ (false = true) by decide)] at H; exact H
          clear H
          have H := H1
          clear H1
          by_cases c19 : (x11_5.length : Int) = 0
          · rw [if_pos c19] at H
            exact absurd H (by simp)
          rw [if_neg c19] at H
          have c19b0 : ((x11_5.length : Int) == 0) = false := beq_eq_false_iff_ne.mpr c19
          have c19b1 : ((x11_5.length : Int) != 0) = true := bne_iff_ne.mpr c19
          have c19b2 : ¬ (x11_5 = []) := fun h_ => c19 (by rw [h_]; rfl)
          obtain ⟨ji20, hji20⟩ : ∃ j_ : Int, (Int.tmod (wrap64 (a2)) (x11_5.length : Int)) = j_ := ⟨_, rfl⟩
          replace H : (if 0 ≤ (ji20) then (if (ji20) < (x11_5.length : Int) then ((some (x11_5.set ((ji20) : Int).toNat (⟨(rd_T38 x11_5 (ji20)).f0, (rd_T38 x11_5 (ji20)).f1, (rd_T38 x11_5 (ji20)).f2, (rd_T38 x11_5 (ji20)).f3, (rd_T38 x11_5 (ji20)).f4, (rd_T38 x11_5 (ji20)).f5, (rd_T38 x11_5 (ji20)).f6, wrap64 (Int.tmod a1 7)⟩ : S38) : List (S38))).bind fun y115 => (if (wrap64 (Int.tmod a1 7)) ≥ 4 then (if 0 ≤ (Int.tmod (wrap64 (a3)) (x11_5.length : Int)) then (if (Int.tmod (wrap64 (a3)) (x11_5.length : Int)) < (x11_5.length : Int) then (partitalaw10_Made.j3 kj14 a3 a4 (y115.set ((Int.tmod (wrap64 (a3)) (x11_5.length : Int)) : Int).toNat (⟨(rd_T38 y115 (Int.tmod (wrap64 (a3)) (x11_5.length : Int))).f0, (rd_T38 y115 (Int.tmod (wrap64 (a3)) (x11_5.length : Int))).f1, (rd_T38 y115 (Int.tmod (wrap64 (a3)) (x11_5.length : Int))).f2, true, (rd_T38 y115 (Int.tmod (wrap64 (a3)) (x11_5.length : Int))).f4, (rd_T38 y115 (Int.tmod (wrap64 (a3)) (x11_5.length : Int))).f5, (rd_T38 y115 (Int.tmod (wrap64 (a3)) (x11_5.length : Int))).f6, (rd_T38 y115 (Int.tmod (wrap64 (a3)) (x11_5.length : Int))).f7⟩ : S38)) (x11_5.length : Int) (wrap64 (Int.tmod a1 7))) else (none)) else (none)) else (partitalaw10_Made.j3 kj14 a3 a4 y115 (x11_5.length : Int) (wrap64 (Int.tmod a1 7))))) else (none)) else (none)) = some r := by first | (rw [hji20] at H; exact H)
          by_cases c21 : 0 ≤ (ji20)
          rotate_left
          · rw [if_neg c21] at H
            exact absurd H (by simp)
          rw [if_pos c21] at H
          have c21b0 : decide (0 ≤ (ji20)) = true := decide_eq_true c21
          clear c21
          by_cases c22 : (ji20) < (x11_5.length : Int)
          rotate_left
          · rw [if_neg c22] at H
            exact absurd H (by simp)
          rw [if_pos c22] at H
          have c22b0 : decide ((ji20) < (x11_5.length : Int)) = true := decide_eq_true c22
          clear c22
          obtain ⟨y115, hy115⟩ : ∃ y_ : List (S38), y_ = (x11_5.set ((ji20) : Int).toNat (⟨(rd_T38 x11_5 (ji20)).f0, (rd_T38 x11_5 (ji20)).f1, (rd_T38 x11_5 (ji20)).f2, (rd_T38 x11_5 (ji20)).f3, (rd_T38 x11_5 (ji20)).f4, (rd_T38 x11_5 (ji20)).f5, (rd_T38 x11_5 (ji20)).f6, wrap64 (Int.tmod a1 7)⟩ : S38)) := ⟨_, rfl⟩
          replace H : (if (wrap64 (Int.tmod a1 7)) ≥ 4 then (if 0 ≤ (Int.tmod (wrap64 (a3)) (x11_5.length : Int)) then (if (Int.tmod (wrap64 (a3)) (x11_5.length : Int)) < (x11_5.length : Int) then (partitalaw10_Made.j3 kj14 a3 a4 (y115.set ((Int.tmod (wrap64 (a3)) (x11_5.length : Int)) : Int).toNat (⟨(rd_T38 y115 (Int.tmod (wrap64 (a3)) (x11_5.length : Int))).f0, (rd_T38 y115 (Int.tmod (wrap64 (a3)) (x11_5.length : Int))).f1, (rd_T38 y115 (Int.tmod (wrap64 (a3)) (x11_5.length : Int))).f2, true, (rd_T38 y115 (Int.tmod (wrap64 (a3)) (x11_5.length : Int))).f4, (rd_T38 y115 (Int.tmod (wrap64 (a3)) (x11_5.length : Int))).f5, (rd_T38 y115 (Int.tmod (wrap64 (a3)) (x11_5.length : Int))).f6, (rd_T38 y115 (Int.tmod (wrap64 (a3)) (x11_5.length : Int))).f7⟩ : S38)) (x11_5.length : Int) (wrap64 (Int.tmod a1 7))) else (none)) else (none)) else (partitalaw10_Made.j3 kj14 a3 a4 y115 (x11_5.length : Int) (wrap64 (Int.tmod a1 7)))) = some r := by first | (have H2_ := (Option.bind_some _ _).symm.trans H; rw [hy115]; with_reducible exact H2_)
          have Ny115 := Aside0.mk hy115
          clear hy115
          have HC24 := Aside0.mk H
          clear H
          have p23 : 0 ≤ ((ji20) : Int) := of_decide_eq_true qqp
          have q23 : ((ji20) : Int) < ((x11_5.length : Int) : Int) := of_decide_eq_true qqp
          obtain ⟨go23, co23, eo23, gb23, gl23, cl23, HG23⟩ := Kd.S_form HO_11.out (by omega)
          (first | cases eo23)
          have GB23 := Aside0.mk gb23
          have GG23 := Aside0.mk HG23
          clear gb23 gl23 HG23
          obtain ⟨_, ce23, hcl23, hM23, hcc23, hfr23, _, _⟩ := Kd.S_elem HO_11.out z38 ((ji20) : Int) p23 q23
          obtain ⟨ve23_2, rfl, ge23_2⟩ := k38_openM hM23
          have hx23_0 : wc.cell? ⟨go23, ((ji20) : Int).toNat * 8, none⟩ = some (.bool ((rd_T38 x11_5 (ji20)).f0)) := hcc23 0 _ rfl
          have hx23_1 : wc.cell? ⟨go23, ((ji20) : Int).toNat * 8 + 1, none⟩ = some (.int .i64 ((rd_T38 x11_5 (ji20)).f1)) := hcc23 1 _ rfl
          have hx23_2 : wc.cell? ⟨go23, ((ji20) : Int).toNat * 8 + 2, none⟩ = some (ve23_2) := hcc23 2 _ rfl
          have hx23_3 : wc.cell? ⟨go23, ((ji20) : Int).toNat * 8 + 3, none⟩ = some (.bool ((rd_T38 x11_5 (ji20)).f3)) := hcc23 3 _ rfl
          have hx23_4 : wc.cell? ⟨go23, ((ji20) : Int).toNat * 8 + 4, none⟩ = some (.bool ((rd_T38 x11_5 (ji20)).f4)) := hcc23 4 _ rfl
          have hx23_5 : wc.cell? ⟨go23, ((ji20) : Int).toNat * 8 + 5, none⟩ = some (.bool ((rd_T38 x11_5 (ji20)).f5)) := hcc23 5 _ rfl
          have hx23_6 : wc.cell? ⟨go23, ((ji20) : Int).toNat * 8 + 6, none⟩ = some (.bool ((rd_T38 x11_5 (ji20)).f6)) := hcc23 6 _ rfl
          have hx23_7 : wc.cell? ⟨go23, ((ji20) : Int).toNat * 8 + 7, none⟩ = some (.int .i64 ((rd_T38 x11_5 (ji20)).f7)) := hcc23 7 _ rfl
          have hf23_0 : wc.frozen? ⟨go23, ((ji20) : Int).toNat * 8, none⟩ = false := hfr23 0
          have hf23_1 : wc.frozen? ⟨go23, ((ji20) : Int).toNat * 8 + 1, none⟩ = false := hfr23 1
          have hf23_2 : wc.frozen? ⟨go23, ((ji20) : Int).toNat * 8 + 2, none⟩ = false := hfr23 2
          have hf23_3 : wc.frozen? ⟨go23, ((ji20) : Int).toNat * 8 + 3, none⟩ = false := hfr23 3
          have hf23_4 : wc.frozen? ⟨go23, ((ji20) : Int).toNat * 8 + 4, none⟩ = false := hfr23 4
          have hf23_5 : wc.frozen? ⟨go23, ((ji20) : Int).toNat * 8 + 5, none⟩ = false := hfr23 5
          have hf23_6 : wc.frozen? ⟨go23, ((ji20) : Int).toNat * 8 + 6, none⟩ = false := hfr23 6
          have hf23_7 : wc.frozen? ⟨go23, ((ji20) : Int).toNat * 8 + 7, none⟩ = false := hfr23 7
          clear hcl23 hcc23 hfr23 hM23
          replace p23 := eq_true p23
          replace q23 := eq_true q23
          have HX25 := Aside0.mk (show Kd.S k38 38 wc w.heap.size (fun k_ => ((fun _ => True)) k_ ∧ ¬ ((fun _ => False)) k_) (.slice (some ⟨go23, 0, none⟩) x11_5.length co16) x11_5 from qqe)
          obtain ⟨oki25, ce25, hcl25, hM25, hcc25, hfr25, hoki25, hH25⟩ := Kd.S_elem HX25.out z38 ((ji20) : Int) (of_decide_eq_true qqp) (by have h_ : ((ji20) : Int) < ((x11_5.length : Int) : Int) := of_decide_eq_true qqp; first | exact h_)
          obtain ⟨ve25_2, rfl, ge25_2⟩ := k38_openM hM25
          have HP25 := Kd.S_seg hH25 (of_decide_eq_true qqp) (by have h_ : ((ji20) : Int) < ((x11_5.length : Int) : Int) := of_decide_eq_true qqp; first | exact h_) (seg := [.int .i64 (wrap64 (Int.tmod a1 7))]) (j := 7) (show 8 ≤ 8 from by decide) (x' := (⟨(rd_T38 x11_5 (ji20)).f0, (rd_T38 x11_5 (ji20)).f1, (rd_T38 x11_5 (ji20)).f2, (rd_T38 x11_5 (ji20)).f3, (rd_T38 x11_5 (ji20)).f4, (rd_T38 x11_5 (ji20)).f5, (rd_T38 x11_5 (ji20)).f6, wrap64 (Int.tmod a1 7)⟩ : S38)) (k38_mkM _ _ _ (⟨(rd_T38 x11_5 (ji20)).f0, (rd_T38 x11_5 (ji20)).f1, (rd_T38 x11_5 (ji20)).f2, (rd_T38 x11_5 (ji20)).f3, (rd_T38 x11_5 (ji20)).f4, (rd_T38 x11_5 (ji20)).f5, (rd_T38 x11_5 (ji20)).f6, wrap64 (Int.tmod a1 7)⟩ : S38) (Kd.R_mono ge25_2 (fun _ h_ => Or.inl h_))) (fun _ hk => hk) (fun k_ hk_ => hk_.elim)
          have hx25_7 := hcc25 7 _ rfl
          (try simp only [show (k38).sz = 8 from rfl, Nat.mul_one, Nat.add_zero] at hx25_7)
          have hf25_7 := hfr25 7
          (try simp only [show (k38).sz = 8 from rfl, Nat.mul_one, Nat.add_zero] at hf25_7)
          clear hcl25 hcc25 hfr25 hM25 hoki25 hH25
          go_upto_if 55 with (first | ((with_reducible refine gate_store (t := 3) (p := 53) rfl ?_); refine store_event (t := 3) (p := 53) (v := ?vo_w26) (w1 := (wc.setCell ⟨go23, ((ji20) : Int).toNat * 8 + 7, none⟩ (.int .i64 (wrap64 (Int.tmod a1 7))))) ?hg ?ho ?hn ?hr ?_; (case ho => rfl); (case hg => rfl); (case hn => rfl); (case hr => exact qqJ); intro w26 hw; have hg : wc.grownBy w26 (some go23) := (by rw [hw]; exact HP25.2); have hp_ : Kd.S k38 38 w26 w.heap.size (fun _ => True) (.slice (some ⟨go23, 0, none⟩) x11_5.length co16) y115 := (by rw [hw, Ny115.out]; exact HP25.1); clear HP25; replace HO_11 := Aside0.mk (hp_); replace HB := Aside0.mk ((qqD : Below w.heap.size w w26)); clear hg hw hp_))
          (try simp only [Act.put, List.setIfInBounds_toArray, List.set_cons_zero, List.set_cons_succ])
          go_cut [] (fun wc => ∃ (kq : Nat) (x11_23 : List (S38)), Aside0 (partitalaw10_Made.j3 kq a3 a4 x11_23 (x11_5.length : Int) (wrap64 (Int.tmod a1 7)) = some r) ∧ Aside0 (kq ≤ kj14) ∧ Aside0 (Kd.S k38 38 wc w.heap.size (fun _ => True) (.slice (some ⟨go23, 0, none⟩) x11_5.length co16) x11_23) ∧ Aside0 (Below w.heap.size w wc))
          case first =>
            have H := HC24.out
            clear HC24
            by_cases c27 : (wrap64 (Int.tmod a1 7)) ≥ 4
            rotate_left
            · rw [if_neg c27] at H
              have c27b0 : decide (4 ≤ (wrap64 (Int.tmod a1 7))) = false := decide_eq_false c27
              clear c27
              (first | rw [c27b0])
              have H' := Aside0.mk H
              clear H
              go_wp2
              go_meet
              case rel => exact ⟨_, (y115), H', ⟨by have := HJ5.out; have := HJ14.out; first | omega⟩, ⟨qS HO_11.out⟩, ⟨qB HB.out⟩⟩
            rw [if_pos c27] at H
            have c27b0 : decide (4 ≤ (wrap64 (Int.tmod a1 7))) = true := decide_eq_true c27
            clear c27
            (first | rw [c27b0])
            obtain ⟨ji28, hji28⟩ : ∃ j_ : Int, (Int.tmod (wrap64 (a3)) (x11_5.length : Int)) = j_ := ⟨_, rfl⟩
            replace H : (if 0 ≤ (ji28) then (if (ji28) < (x11_5.length : Int) then (partitalaw10_Made.j3 kj14 a3 a4 (y115.set ((ji28) : Int).toNat (⟨(rd_T38 y115 (ji28)).f0, (rd_T38 y115 (ji28)).f1, (rd_T38 y115 (ji28)).f2, true, (rd_T38 y115 (ji28)).f4, (rd_T38 y115 (ji28)).f5, (rd_T38 y115 (ji28)).f6, (rd_T38 y115 (ji28)).f7⟩ : S38)) (x11_5.length : Int) (wrap64 (Int.tmod a1 7))) else (none)) else (none)) = some r := by first | (rw [hji28] at H; exact H)
            by_cases c29 : 0 ≤ (ji28)
            rotate_left
            · rw [if_neg c29] at H
              exact absurd H (by simp)
            rw [if_pos c29] at H
            have c29b0 : decide (0 ≤ (ji28)) = true := decide_eq_true c29
            clear c29
            by_cases c30 : (ji28) < (x11_5.length : Int)
            rotate_left
            · rw [if_neg c30] at H
              exact absurd H (by simp)
            rw [if_pos c30] at H
            have c30b0 : decide ((ji28) < (x11_5.length : Int)) = true := decide_eq_true c30
            clear c30
            obtain ⟨y116, hy116⟩ : ∃ y_ : List (S38), y_ = (y115.set ((ji28) : Int).toNat (⟨(rd_T38 y115 (ji28)).f0, (rd_T38 y115 (ji28)).f1, (rd_T38 y115 (ji28)).f2, true, (rd_T38 y115 (ji28)).f4, (rd_T38 y115 (ji28)).f5, (rd_T38 y115 (ji28)).f6, (rd_T38 y115 (ji28)).f7⟩ : S38)) := ⟨_, rfl⟩
            replace H : (partitalaw10_Made.j3 kj14 a3 a4 y116 (x11_5.length : Int) (wrap64 (Int.tmod a1 7))) = some r := by first | (rw [hy116]; with_reducible exact H)
            have Ny116 := Aside0.mk hy116
            clear hy116
            have H' := Aside0.mk H
            clear H
            have p31 : 0 ≤ ((ji28) : Int) := of_decide_eq_true qqp
            have q31 : ((ji28) : Int) < ((x11_5.length : Int) : Int) := of_decide_eq_true qqp
            obtain ⟨_, ce31, hcl31, hM31, hcc31, hfr31, _, _⟩ := Kd.S_elem HO_11.out z38 ((ji28) : Int) p31 q31
            obtain ⟨ve31_2, rfl, ge31_2⟩ := k38_openM hM31
            have hx31_0 : w26.cell? ⟨go23, ((ji28) : Int).toNat * 8, none⟩ = some (.bool ((rd_T38 y115 (ji28)).f0)) := hcc31 0 _ rfl
            have hx31_1 : w26.cell? ⟨go23, ((ji28) : Int).toNat * 8 + 1, none⟩ = some (.int .i64 ((rd_T38 y115 (ji28)).f1)) := hcc31 1 _ rfl
            have hx31_2 : w26.cell? ⟨go23, ((ji28) : Int).toNat * 8 + 2, none⟩ = some (ve31_2) := hcc31 2 _ rfl
            have hx31_3 : w26.cell? ⟨go23, ((ji28) : Int).toNat * 8 + 3, none⟩ = some (.bool ((rd_T38 y115 (ji28)).f3)) := hcc31 3 _ rfl
            have hx31_4 : w26.cell? ⟨go23, ((ji28) : Int).toNat * 8 + 4, none⟩ = some (.bool ((rd_T38 y115 (ji28)).f4)) := hcc31 4 _ rfl
            have hx31_5 : w26.cell? ⟨go23, ((ji28) : Int).toNat * 8 + 5, none⟩ = some (.bool ((rd_T38 y115 (ji28)).f5)) := hcc31 5 _ rfl
            have hx31_6 : w26.cell? ⟨go23, ((ji28) : Int).toNat * 8 + 6, none⟩ = some (.bool ((rd_T38 y115 (ji28)).f6)) := hcc31 6 _ rfl
            have hx31_7 : w26.cell? ⟨go23, ((ji28) : Int).toNat * 8 + 7, none⟩ = some (.int .i64 ((rd_T38 y115 (ji28)).f7)) := hcc31 7 _ rfl
            have hf31_0 : w26.frozen? ⟨go23, ((ji28) : Int).toNat * 8, none⟩ = false := hfr31 0
            have hf31_1 : w26.frozen? ⟨go23, ((ji28) : Int).toNat * 8 + 1, none⟩ = false := hfr31 1
            have hf31_2 : w26.frozen? ⟨go23, ((ji28) : Int).toNat * 8 + 2, none⟩ = false := hfr31 2
            have hf31_3 : w26.frozen? ⟨go23, ((ji28) : Int).toNat * 8 + 3, none⟩ = false := hfr31 3
            have hf31_4 : w26.frozen? ⟨go23, ((ji28) : Int).toNat * 8 + 4, none⟩ = false := hfr31 4
            have hf31_5 : w26.frozen? ⟨go23, ((ji28) : Int).toNat * 8 + 5, none⟩ = false := hfr31 5
            have hf31_6 : w26.frozen? ⟨go23, ((ji28) : Int).toNat * 8 + 6, none⟩ = false := hfr31 6
            have hf31_7 : w26.frozen? ⟨go23, ((ji28) : Int).toNat * 8 + 7, none⟩ = false := hfr31 7
            clear hcl31 hcc31 hfr31 hM31
            replace p31 := eq_true p31
            replace q31 := eq_true q31
            have HX32 := Aside0.mk (show Kd.S k38 38 w26 w.heap.size (fun k_ => ((fun _ => True)) k_ ∧ ¬ ((fun _ => False)) k_) (.slice (some ⟨go23, 0, none⟩) x11_5.length co16) y115 from qqe)
            obtain ⟨oki32, ce32, hcl32, hM32, hcc32, hfr32, hoki32, hH32⟩ := Kd.S_elem HX32.out z38 ((ji28) : Int) (of_decide_eq_true qqp) (by have h_ : ((ji28) : Int) < ((x11_5.length : Int) : Int) := of_decide_eq_true qqp; first | exact h_)
            obtain ⟨ve32_2, rfl, ge32_2⟩ := k38_openM hM32
            have HP32 := Kd.S_seg hH32 (of_decide_eq_true qqp) (by have h_ : ((ji28) : Int) < ((x11_5.length : Int) : Int) := of_decide_eq_true qqp; first | exact h_) (seg := [.bool true]) (j := 3) (show 4 ≤ 8 from by decide) (x' := (⟨(rd_T38 y115 (ji28)).f0, (rd_T38 y115 (ji28)).f1, (rd_T38 y115 (ji28)).f2, true, (rd_T38 y115 (ji28)).f4, (rd_T38 y115 (ji28)).f5, (rd_T38 y115 (ji28)).f6, (rd_T38 y115 (ji28)).f7⟩ : S38)) (k38_mkM _ _ _ (⟨(rd_T38 y115 (ji28)).f0, (rd_T38 y115 (ji28)).f1, (rd_T38 y115 (ji28)).f2, true, (rd_T38 y115 (ji28)).f4, (rd_T38 y115 (ji28)).f5, (rd_T38 y115 (ji28)).f6, (rd_T38 y115 (ji28)).f7⟩ : S38) (Kd.R_mono ge32_2 (fun _ h_ => Or.inl h_))) (fun _ hk => hk) (fun k_ hk_ => hk_.elim)
            have hx32_3 := hcc32 3 _ rfl
            (try simp only [show (k38).sz = 8 from rfl, Nat.mul_one, Nat.add_zero] at hx32_3)
            have hf32_3 := hfr32 3
            (try simp only [show (k38).sz = 8 from rfl, Nat.mul_one, Nat.add_zero] at hf32_3)
            clear hcl32 hcc32 hfr32 hM32 hoki32 hH32
            go_wp2_with (first | ((with_reducible refine gate_store (t := 4) (p := 62) rfl ?_); refine store_event (t := 4) (p := 62) (v := ?vo_w33) (w1 := (w26.setCell ⟨go23, ((ji28) : Int).toNat * 8 + 3, none⟩ (.bool true))) ?hg ?ho ?hn ?hr ?_; (case ho => rfl); (case hg => rfl); (case hn => rfl); (case hr => exact qqJ); intro w33 hw; have hg : w26.grownBy w33 (some go23) := (by rw [hw]; exact HP32.2); have hp_ : Kd.S k38 38 w33 w.heap.size (fun _ => True) (.slice (some ⟨go23, 0, none⟩) x11_5.length co16) y116 := (by rw [hw, Ny116.out]; exact HP32.1); clear HP32; replace HO_11 := Aside0.mk (hp_); replace HB := Aside0.mk ((qqD : Below w.heap.size w w33)); clear hg hw hp_))
            go_meet
            case rel => exact ⟨_, (y116), H', ⟨by have := HJ5.out; have := HJ14.out; first | omega⟩, ⟨qS HO_11.out⟩, ⟨qB HB.out⟩⟩
          case rest =>
            clear HC24
            obtain ⟨kq, x11_23, HA, HJ23, HO_11, HB⟩ := hcut
            have hl11_23 := (Kd.S_reads' HO_11.out).1
            rw [hl11_23] at HO_11 HA
            (try simp only [hl11_23])
            cases kq with
            | zero => exact absurd HA.out (by simp [partitalaw10_Made.j3])
            | succ kj23 =>
              have H := HA.out
              clear HA
              simp only [partitalaw10_Made.j3] at H
              have HC34 := Aside0.mk H
              clear H
              go_upto_region 13 with (fail)
              go_cut [68] (fun v68 wc => ∃ (kq : Nat) (x68_33 : Bool), v68 = .bool x68_33 ∧ Aside0 (partitalaw10_Made.j4 kq a3 a4 x11_23 (x11_23.length : Int) (wrap64 (Int.tmod a1 7)) x68_33 = some r) ∧ Aside0 (kq ≤ kj23) ∧ Aside0 (Kd.S k38 38 wc w.heap.size (fun _ => True) (.slice (some ⟨go23, 0, none⟩) x11_23.length co16) x11_23) ∧ Aside0 (Below w.heap.size w wc))
              case first =>
                have H := HC34.out
                clear HC34
                by_cases c35 : (wrap64 (Int.tmod a1 7)) = 2
                rotate_left
                · rw [if_neg c35] at H
                  have c35b0 : ((wrap64 (Int.tmod a1 7)) == 2) = false := beq_eq_false_iff_ne.mpr c35
                  have c35b1 : ((wrap64 (Int.tmod a1 7)) != 2) = true := bne_iff_ne.mpr c35
                  (first | skip)
                  have H' := Aside0.mk H
                  clear H
                  go_wp2
                  go_meet
                  case rel => exact ⟨_, (((wrap64 (Int.tmod a1 7)) == 5)), (by first | rfl), H', ⟨by have := HJ5.out; have := HJ14.out; have := HJ23.out; first | omega⟩, ⟨qqk⟩, ⟨qB HB.out⟩⟩
                rw [if_pos c35] at H
                have c35b0 : ((wrap64 (Int.tmod a1 7)) == 2) = true := beq_iff_eq.mpr c35
                have c35b1 : ((wrap64 (Int.tmod a1 7)) != 2) = false := bne_eq_false_iff_eq.mpr c35
                clear c35
                (first | skip)
                have H' := Aside0.mk H
                clear H
                go_wp2
                go_meet
                case rel => exact ⟨_, (true), (by first | rfl), H', ⟨by have := HJ5.out; have := HJ14.out; have := HJ23.out; first | omega⟩, ⟨qqk⟩, ⟨qB HB.out⟩⟩
              case rest =>
                clear HC34
                obtain ⟨kq, x68_33, rfl, HA, HJ33, HO_11, HB⟩ := hcut
                cases kq with
                | zero => exact absurd HA.out (by simp [partitalaw10_Made.j4])
                | succ kj33 =>
                  have H := HA.out
                  clear HA
                  simp only [partitalaw10_Made.j4] at H
                  have HC36 := Aside0.mk H
                  clear H
                  go_upto_if 68 with (fail)
                  go_cut [] (fun wc => ∃ (kq : Nat) (x11_35 : List (S38)), Aside0 (partitalaw10_Made.j5 kq a4 x11_35 (x11_23.length : Int) (wrap64 (Int.tmod a1 7)) = some r) ∧ Aside0 (kq ≤ kj33) ∧ Aside0 (Kd.S k38 38 wc w.heap.size (fun _ => True) (.slice (some ⟨go23, 0, none⟩) x11_23.length co16) x11_35) ∧ Aside0 (Below w.heap.size w wc))
                  case first =>
                    have H := HC36.out
                    clear HC36
                    by_cases c37 : x68_33 = true
                    rotate_left
                    · replace c37 := Bool.eq_false_iff.mpr c37
                      subst c37
                      have H1 : (partitalaw10_Made.j5 kj33 a4 x11_23 (x11_23.length : Int) (wrap64 (Int.tmod a1 7))) = some r := by rw [if_neg (show ¬ (false = true) by decide)] at H; exact H
                      clear H
                      have H := H1
                      clear H1
                      have H' := Aside0.mk H
                      clear H
                      go_wp2
                      go_meet
                      case rel => exact ⟨_, (x11_23), H', ⟨by have := HJ5.out; have := HJ14.out; have := HJ23.out; have := HJ33.out; first | omega⟩, ⟨qqk⟩, ⟨qB HB.out⟩⟩
                    subst c37
                    have H1 : (if (x11_23.length : Int) = 0 then (none) else (if 0 ≤ (((Int.tdiv a3 2) % 256) % (x11_23.length : Int)) then (if (((Int.tdiv a3 2) % 256) % (x11_23.length : Int)) < (x11_23.length : Int) then (partitalaw10_Made.j5 kj33 a4 (x11_23.set ((((Int.tdiv a3 2) % 256) % (x11_23.length : Int)) : Int).toNat (⟨(rd_T38 x11_23 (((Int.tdiv a3 2) % 256) % (x11_23.length : Int))).f0, (rd_T38 x11_23 (((Int.tdiv a3 2) % 256) % (x11_23.length : Int))).f1, (rd_T38 x11_23 (((Int.tdiv a3 2) % 256) % (x11_23.length : Int))).f2, (rd_T38 x11_23 (((Int.tdiv a3 2) % 256) % (x11_23.length : Int))).f3, (rd_T38 x11_23 (((Int.tdiv a3 2) % 256) % (x11_23.length : Int))).f4, (rd_T38 x11_23 (((Int.tdiv a3 2) % 256) % (x11_23.length : Int))).f5, true, (rd_T38 x11_23 (((Int.tdiv a3 2) % 256) % (x11_23.length : Int))).f7⟩ : S38)) (x11_23.length : Int) (wrap64 (Int.tmod a1 7))) else (none)) else (none))) = some r := by rw [if_pos rfl] at H; exact H
                    clear H
                    have H := H1
                    clear H1
                    by_cases c38 : (x11_23.length : Int) = 0
                    · rw [if_pos c38] at H
                      exact absurd H (by simp)
                    rw [if_neg c38] at H
                    have c38b0 : ((x11_23.length : Int) == 0) = false := beq_eq_false_iff_ne.mpr c38
                    have c38b1 : ((x11_23.length : Int) != 0) = true := bne_iff_ne.mpr c38
                    have c38b2 : ¬ (x11_23 = []) := fun h_ => c38 (by rw [h_]; rfl)
                    (first | skip)
                    obtain ⟨ji39, hji39⟩ : ∃ j_ : Int, (((Int.tdiv a3 2) % 256) % (x11_23.length : Int)) = j_ := ⟨_, rfl⟩
                    replace H : (if 0 ≤ (ji39) then (if (ji39) < (x11_23.length : Int) then (partitalaw10_Made.j5 kj33 a4 (x11_23.set ((ji39) : Int).toNat (⟨(rd_T38 x11_23 (ji39)).f0, (rd_T38 x11_23 (ji39)).f1, (rd_T38 x11_23 (ji39)).f2, (rd_T38 x11_23 (ji39)).f3, (rd_T38 x11_23 (ji39)).f4, (rd_T38 x11_23 (ji39)).f5, true, (rd_T38 x11_23 (ji39)).f7⟩ : S38)) (x11_23.length : Int) (wrap64 (Int.tmod a1 7))) else (none)) else (none)) = some r := by first | (rw [hji39] at H; exact H)
                    by_cases c40 : 0 ≤ (ji39)
                    rotate_left
                    · rw [if_neg c40] at H
                      exact absurd H (by simp)
                    rw [if_pos c40] at H
                    have c40b0 : decide (0 ≤ (ji39)) = true := decide_eq_true c40
                    clear c40
                    by_cases c41 : (ji39) < (x11_23.length : Int)
                    rotate_left
                    · rw [if_neg c41] at H
                      exact absurd H (by simp)
                    rw [if_pos c41] at H
                    have c41b0 : decide ((ji39) < (x11_23.length : Int)) = true := decide_eq_true c41
                    clear c41
                    obtain ⟨y117, hy117⟩ : ∃ y_ : List (S38), y_ = (x11_23.set ((ji39) : Int).toNat (⟨(rd_T38 x11_23 (ji39)).f0, (rd_T38 x11_23 (ji39)).f1, (rd_T38 x11_23 (ji39)).f2, (rd_T38 x11_23 (ji39)).f3, (rd_T38 x11_23 (ji39)).f4, (rd_T38 x11_23 (ji39)).f5, true, (rd_T38 x11_23 (ji39)).f7⟩ : S38)) := ⟨_, rfl⟩
                    replace H : (partitalaw10_Made.j5 kj33 a4 y117 (x11_23.length : Int) (wrap64 (Int.tmod a1 7))) = some r := by first | (rw [hy117]; with_reducible exact H)
                    have Ny117 := Aside0.mk hy117
                    clear hy117
                    have H' := Aside0.mk H
                    clear H
                    have p42 : 0 ≤ ((ji39) : Int) := of_decide_eq_true qqp
                    have q42 : ((ji39) : Int) < ((x11_23.length : Int) : Int) := of_decide_eq_true qqp
                    obtain ⟨_, ce42, hcl42, hM42, hcc42, hfr42, _, _⟩ := Kd.S_elem HO_11.out z38 ((ji39) : Int) p42 q42
                    obtain ⟨ve42_2, rfl, ge42_2⟩ := k38_openM hM42
                    have hx42_0 : wc.cell? ⟨go23, ((ji39) : Int).toNat * 8, none⟩ = some (.bool ((rd_T38 x11_23 (ji39)).f0)) := hcc42 0 _ rfl
                    have hx42_1 : wc.cell? ⟨go23, ((ji39) : Int).toNat * 8 + 1, none⟩ = some (.int .i64 ((rd_T38 x11_23 (ji39)).f1)) := hcc42 1 _ rfl
                    have hx42_2 : wc.cell? ⟨go23, ((ji39) : Int).toNat * 8 + 2, none⟩ = some (ve42_2) := hcc42 2 _ rfl
                    have hx42_3 : wc.cell? ⟨go23, ((ji39) : Int).toNat * 8 + 3, none⟩ = some (.bool ((rd_T38 x11_23 (ji39)).f3)) := hcc42 3 _ rfl
                    have hx42_4 : wc.cell? ⟨go23, ((ji39) : Int).toNat * 8 + 4, none⟩ = some (.bool ((rd_T38 x11_23 (ji39)).f4)) := hcc42 4 _ rfl
                    have hx42_5 : wc.cell? ⟨go23, ((ji39) : Int).toNat * 8 + 5, none⟩ = some (.bool ((rd_T38 x11_23 (ji39)).f5)) := hcc42 5 _ rfl
                    have hx42_6 : wc.cell? ⟨go23, ((ji39) : Int).toNat * 8 + 6, none⟩ = some (.bool ((rd_T38 x11_23 (ji39)).f6)) := hcc42 6 _ rfl
                    have hx42_7 : wc.cell? ⟨go23, ((ji39) : Int).toNat * 8 + 7, none⟩ = some (.int .i64 ((rd_T38 x11_23 (ji39)).f7)) := hcc42 7 _ rfl
                    have hf42_0 : wc.frozen? ⟨go23, ((ji39) : Int).toNat * 8, none⟩ = false := hfr42 0
                    have hf42_1 : wc.frozen? ⟨go23, ((ji39) : Int).toNat * 8 + 1, none⟩ = false := hfr42 1
                    have hf42_2 : wc.frozen? ⟨go23, ((ji39) : Int).toNat * 8 + 2, none⟩ = false := hfr42 2
                    have hf42_3 : wc.frozen? ⟨go23, ((ji39) : Int).toNat * 8 + 3, none⟩ = false := hfr42 3
                    have hf42_4 : wc.frozen? ⟨go23, ((ji39) : Int).toNat * 8 + 4, none⟩ = false := hfr42 4
                    have hf42_5 : wc.frozen? ⟨go23, ((ji39) : Int).toNat * 8 + 5, none⟩ = false := hfr42 5
                    have hf42_6 : wc.frozen? ⟨go23, ((ji39) : Int).toNat * 8 + 6, none⟩ = false := hfr42 6
                    have hf42_7 : wc.frozen? ⟨go23, ((ji39) : Int).toNat * 8 + 7, none⟩ = false := hfr42 7
                    clear hcl42 hcc42 hfr42 hM42
                    replace p42 := eq_true p42
                    replace q42 := eq_true q42
                    have HX43 := Aside0.mk (show Kd.S k38 38 wc w.heap.size (fun k_ => ((fun _ => True)) k_ ∧ ¬ ((fun _ => False)) k_) (.slice (some ⟨go23, 0, none⟩) x11_23.length co16) x11_23 from qqe)
                    obtain ⟨oki43, ce43, hcl43, hM43, hcc43, hfr43, hoki43, hH43⟩ := Kd.S_elem HX43.out z38 ((ji39) : Int) (of_decide_eq_true qqp) (by have h_ : ((ji39) : Int) < ((x11_23.length : Int) : Int) := of_decide_eq_true qqp; first | exact h_)
                    obtain ⟨ve43_2, rfl, ge43_2⟩ := k38_openM hM43
                    have HP43 := Kd.S_seg hH43 (of_decide_eq_true qqp) (by have h_ : ((ji39) : Int) < ((x11_23.length : Int) : Int) := of_decide_eq_true qqp; first | exact h_) (seg := [.bool true]) (j := 6) (show 7 ≤ 8 from by decide) (x' := (⟨(rd_T38 x11_23 (ji39)).f0, (rd_T38 x11_23 (ji39)).f1, (rd_T38 x11_23 (ji39)).f2, (rd_T38 x11_23 (ji39)).f3, (rd_T38 x11_23 (ji39)).f4, (rd_T38 x11_23 (ji39)).f5, true, (rd_T38 x11_23 (ji39)).f7⟩ : S38)) (k38_mkM _ _ _ (⟨(rd_T38 x11_23 (ji39)).f0, (rd_T38 x11_23 (ji39)).f1, (rd_T38 x11_23 (ji39)).f2, (rd_T38 x11_23 (ji39)).f3, (rd_T38 x11_23 (ji39)).f4, (rd_T38 x11_23 (ji39)).f5, true, (rd_T38 x11_23 (ji39)).f7⟩ : S38) (Kd.R_mono ge43_2 (fun _ h_ => Or.inl h_))) (fun _ hk => hk) (fun k_ hk_ => hk_.elim)
                    have hx43_6 := hcc43 6 _ rfl
                    (try simp only [show (k38).sz = 8 from rfl, Nat.mul_one, Nat.add_zero] at hx43_6)
                    have hf43_6 := hfr43 6
                    (try simp only [show (k38).sz = 8 from rfl, Nat.mul_one, Nat.add_zero] at hf43_6)
                    clear hcl43 hcc43 hfr43 hM43 hoki43 hH43
                    go_wp2_with (first | ((with_reducible refine gate_store (t := 4) (p := 76) rfl ?_); refine store_event (t := 4) (p := 76) (v := ?vo_w44) (w1 := (wc.setCell ⟨go23, ((ji39) : Int).toNat * 8 + 6, none⟩ (.bool true))) ?hg ?ho ?hn ?hr ?_; (case ho => rfl); (case hg => rfl); (case hn => rfl); (case hr => exact qqJ); intro w44 hw; have hg : wc.grownBy w44 (some go23) := (by rw [hw]; exact HP43.2); have hp_ : Kd.S k38 38 w44 w.heap.size (fun _ => True) (.slice (some ⟨go23, 0, none⟩) x11_23.length co16) y117 := (by rw [hw, Ny117.out]; exact HP43.1); clear HP43; replace HO_11 := Aside0.mk (hp_); replace HB := Aside0.mk ((qqD : Below w.heap.size w w44)); clear hg hw hp_))
                    go_meet
                    case rel => exact ⟨_, (y117), H', ⟨by have := HJ5.out; have := HJ14.out; have := HJ23.out; have := HJ33.out; first | omega⟩, ⟨qqk⟩, ⟨qB HB.out⟩⟩
                  case rest =>
                    clear HC36
                    obtain ⟨kq, x11_35, HA, HJ35, HO_11, HB⟩ := hcut
                    have hl11_35 := (Kd.S_reads' HO_11.out).1
                    rw [hl11_35] at HO_11 HA
                    (try simp only [hl11_35])
                    cases kq with
                    | zero => exact absurd HA.out (by simp [partitalaw10_Made.j5])
                    | succ kj35 =>
                      have H := HA.out
                      clear HA
                      simp only [partitalaw10_Made.j5] at H
                      by_cases c45 : (wrap64 (Int.tmod a1 7)) = 3
                      · rw [if_pos c45] at H
                        have c45b0 : ((wrap64 (Int.tmod a1 7)) == 3) = true := beq_iff_eq.mpr c45
                        have c45b1 : ((wrap64 (Int.tmod a1 7)) != 3) = false := bne_eq_false_iff_eq.mpr c45
                        clear c45
                        by_cases c46 : (x11_35.length : Int) = 0
                        · rw [if_pos c46] at H
                          exact absurd H (by simp)
                        rw [if_neg c46] at H
                        have c46b0 : ((x11_35.length : Int) == 0) = false := beq_eq_false_iff_ne.mpr c46
                        have c46b1 : ((x11_35.length : Int) != 0) = true := bne_iff_ne.mpr c46
                        have c46b2 : ¬ (x11_35 = []) := fun h_ => c46 (by rw [h_]; rfl)
                        obtain ⟨ji47, hji47⟩ : ∃ j_ : Int, (Int.tmod (wrap64 (a4)) (x11_35.length : Int)) = j_ := ⟨_, rfl⟩
                        replace H : (if 0 ≤ (ji47) then (if (ji47) < (x11_35.length : Int) then ((some (x11_35.set ((ji47) : Int).toNat (⟨(rd_T38 x11_35 (ji47)).f0, (rd_T38 x11_35 (ji47)).f1, (rd_T38 x11_35 (ji47)).f2, (rd_T38 x11_35 (ji47)).f3, true, (rd_T38 x11_35 (ji47)).f5, (rd_T38 x11_35 (ji47)).f6, (rd_T38 x11_35 (ji47)).f7⟩ : S38) : List (S38))).bind fun y118 => (if 0 ≤ (((Int.tdiv a4 3) % 256) % (x11_35.length : Int)) then (if (((Int.tdiv a4 3) % 256) % (x11_35.length : Int)) < (x11_35.length : Int) then (some (y118.set ((((Int.tdiv a4 3) % 256) % (x11_35.length : Int)) : Int).toNat (⟨(rd_T38 y118 (((Int.tdiv a4 3) % 256) % (x11_35.length : Int))).f0, (rd_T38 y118 (((Int.tdiv a4 3) % 256) % (x11_35.length : Int))).f1, (rd_T38 y118 (((Int.tdiv a4 3) % 256) % (x11_35.length : Int))).f2, (rd_T38 y118 (((Int.tdiv a4 3) % 256) % (x11_35.length : Int))).f3, (rd_T38 y118 (((Int.tdiv a4 3) % 256) % (x11_35.length : Int))).f4, true, (rd_T38 y118 (((Int.tdiv a4 3) % 256) % (x11_35.length : Int))).f6, (rd_T38 y118 (((Int.tdiv a4 3) % 256) % (x11_35.length : Int))).f7⟩ : S38))) else (none)) else (none))) else (none)) else (none)) = some r := by first | (rw [hji47] at H; exact H)
                        by_cases c48 : 0 ≤ (ji47)
                        rotate_left
                        · rw [if_neg c48] at H
                          exact absurd H (by simp)
                        rw [if_pos c48] at H
                        have c48b0 : decide (0 ≤ (ji47)) = true := decide_eq_true c48
                        clear c48
                        by_cases c49 : (ji47) < (x11_35.length : Int)
                        rotate_left
                        · rw [if_neg c49] at H
                          exact absurd H (by simp)
                        rw [if_pos c49] at H
                        have c49b0 : decide ((ji47) < (x11_35.length : Int)) = true := decide_eq_true c49
                        clear c49
                        obtain ⟨y118, hy118⟩ : ∃ y_ : List (S38), y_ = (x11_35.set ((ji47) : Int).toNat (⟨(rd_T38 x11_35 (ji47)).f0, (rd_T38 x11_35 (ji47)).f1, (rd_T38 x11_35 (ji47)).f2, (rd_T38 x11_35 (ji47)).f3, true, (rd_T38 x11_35 (ji47)).f5, (rd_T38 x11_35 (ji47)).f6, (rd_T38 x11_35 (ji47)).f7⟩ : S38)) := ⟨_, rfl⟩
                        replace H : (if 0 ≤ (((Int.tdiv a4 3) % 256) % (x11_35.length : Int)) then (if (((Int.tdiv a4 3) % 256) % (x11_35.length : Int)) < (x11_35.length : Int) then (some (y118.set ((((Int.tdiv a4 3) % 256) % (x11_35.length : Int)) : Int).toNat (⟨(rd_T38 y118 (((Int.tdiv a4 3) % 256) % (x11_35.length : Int))).f0, (rd_T38 y118 (((Int.tdiv a4 3) % 256) % (x11_35.length : Int))).f1, (rd_T38 y118 (((Int.tdiv a4 3) % 256) % (x11_35.length : Int))).f2, (rd_T38 y118 (((Int.tdiv a4 3) % 256) % (x11_35.length : Int))).f3, (rd_T38 y118 (((Int.tdiv a4 3) % 256) % (x11_35.length : Int))).f4, true, (rd_T38 y118 (((Int.tdiv a4 3) % 256) % (x11_35.length : Int))).f6, (rd_T38 y118 (((Int.tdiv a4 3) % 256) % (x11_35.length : Int))).f7⟩ : S38))) else (none)) else (none)) = some r := by first | (have H2_ := (Option.bind_some _ _).symm.trans H; rw [hy118]; with_reducible exact H2_)
                        have Ny118 := Aside0.mk hy118
                        clear hy118
                        obtain ⟨ji51, hji51⟩ : ∃ j_ : Int, (((Int.tdiv a4 3) % 256) % (x11_35.length : Int)) = j_ := ⟨_, rfl⟩
                        replace H : (if 0 ≤ (ji51) then (if (ji51) < (x11_35.length : Int) then (some (y118.set ((ji51) : Int).toNat (⟨(rd_T38 y118 (ji51)).f0, (rd_T38 y118 (ji51)).f1, (rd_T38 y118 (ji51)).f2, (rd_T38 y118 (ji51)).f3, (rd_T38 y118 (ji51)).f4, true, (rd_T38 y118 (ji51)).f6, (rd_T38 y118 (ji51)).f7⟩ : S38))) else (none)) else (none)) = some r := by first | (rw [hji51] at H; exact H)
                        by_cases c52 : 0 ≤ (ji51)
                        rotate_left
                        · rw [if_neg c52] at H
                          exact absurd H (by simp)
                        rw [if_pos c52] at H
                        have c52b0 : decide (0 ≤ (ji51)) = true := decide_eq_true c52
                        clear c52
                        by_cases c53 : (ji51) < (x11_35.length : Int)
                        rotate_left
                        · rw [if_neg c53] at H
                          exact absurd H (by simp)
                        rw [if_pos c53] at H
                        have c53b0 : decide ((ji51) < (x11_35.length : Int)) = true := decide_eq_true c53
                        clear c53
                        obtain ⟨y119, hy119⟩ : ∃ y_ : List (S38), y_ = (y118.set ((ji51) : Int).toNat (⟨(rd_T38 y118 (ji51)).f0, (rd_T38 y118 (ji51)).f1, (rd_T38 y118 (ji51)).f2, (rd_T38 y118 (ji51)).f3, (rd_T38 y118 (ji51)).f4, true, (rd_T38 y118 (ji51)).f6, (rd_T38 y118 (ji51)).f7⟩ : S38)) := ⟨_, rfl⟩
                        replace H : (some y119) = some r := by first | (rw [hy119]; with_reducible exact H)
                        have Ny119 := Aside0.mk hy119
                        clear hy119
                        obtain rfl := Option.some.inj H
                        have p50 : 0 ≤ ((ji47) : Int) := of_decide_eq_true qqp
                        have q50 : ((ji47) : Int) < ((x11_35.length : Int) : Int) := of_decide_eq_true qqp
                        obtain ⟨_, ce50, hcl50, hM50, hcc50, hfr50, _, _⟩ := Kd.S_elem HO_11.out z38 ((ji47) : Int) p50 q50
                        obtain ⟨ve50_2, rfl, ge50_2⟩ := k38_openM hM50
                        have hx50_0 : wc.cell? ⟨go23, ((ji47) : Int).toNat * 8, none⟩ = some (.bool ((rd_T38 x11_35 (ji47)).f0)) := hcc50 0 _ rfl
                        have hx50_1 : wc.cell? ⟨go23, ((ji47) : Int).toNat * 8 + 1, none⟩ = some (.int .i64 ((rd_T38 x11_35 (ji47)).f1)) := hcc50 1 _ rfl
                        have hx50_2 : wc.cell? ⟨go23, ((ji47) : Int).toNat * 8 + 2, none⟩ = some (ve50_2) := hcc50 2 _ rfl
                        have hx50_3 : wc.cell? ⟨go23, ((ji47) : Int).toNat * 8 + 3, none⟩ = some (.bool ((rd_T38 x11_35 (ji47)).f3)) := hcc50 3 _ rfl
                        have hx50_4 : wc.cell? ⟨go23, ((ji47) : Int).toNat * 8 + 4, none⟩ = some (.bool ((rd_T38 x11_35 (ji47)).f4)) := hcc50 4 _ rfl
                        have hx50_5 : wc.cell? ⟨go23, ((ji47) : Int).toNat * 8 + 5, none⟩ = some (.bool ((rd_T38 x11_35 (ji47)).f5)) := hcc50 5 _ rfl
                        have hx50_6 : wc.cell? ⟨go23, ((ji47) : Int).toNat * 8 + 6, none⟩ = some (.bool ((rd_T38 x11_35 (ji47)).f6)) := hcc50 6 _ rfl
                        have hx50_7 : wc.cell? ⟨go23, ((ji47) : Int).toNat * 8 + 7, none⟩ = some (.int .i64 ((rd_T38 x11_35 (ji47)).f7)) := hcc50 7 _ rfl
                        have hf50_0 : wc.frozen? ⟨go23, ((ji47) : Int).toNat * 8, none⟩ = false := hfr50 0
                        have hf50_1 : wc.frozen? ⟨go23, ((ji47) : Int).toNat * 8 + 1, none⟩ = false := hfr50 1
                        have hf50_2 : wc.frozen? ⟨go23, ((ji47) : Int).toNat * 8 + 2, none⟩ = false := hfr50 2
                        have hf50_3 : wc.frozen? ⟨go23, ((ji47) : Int).toNat * 8 + 3, none⟩ = false := hfr50 3
                        have hf50_4 : wc.frozen? ⟨go23, ((ji47) : Int).toNat * 8 + 4, none⟩ = false := hfr50 4
                        have hf50_5 : wc.frozen? ⟨go23, ((ji47) : Int).toNat * 8 + 5, none⟩ = false := hfr50 5
                        have hf50_6 : wc.frozen? ⟨go23, ((ji47) : Int).toNat * 8 + 6, none⟩ = false := hfr50 6
                        have hf50_7 : wc.frozen? ⟨go23, ((ji47) : Int).toNat * 8 + 7, none⟩ = false := hfr50 7
                        clear hcl50 hcc50 hfr50 hM50
                        replace p50 := eq_true p50
                        replace q50 := eq_true q50
                        have HX55 := Aside0.mk (show Kd.S k38 38 wc w.heap.size (fun k_ => ((fun _ => True)) k_ ∧ ¬ ((fun _ => False)) k_) (.slice (some ⟨go23, 0, none⟩) x11_35.length co16) x11_35 from qqe)
                        obtain ⟨oki55, ce55, hcl55, hM55, hcc55, hfr55, hoki55, hH55⟩ := Kd.S_elem HX55.out z38 ((ji47) : Int) (of_decide_eq_true qqp) (by have h_ : ((ji47) : Int) < ((x11_35.length : Int) : Int) := of_decide_eq_true qqp; first | exact h_)
                        obtain ⟨ve55_2, rfl, ge55_2⟩ := k38_openM hM55
                        have HP55 := Kd.S_seg hH55 (of_decide_eq_true qqp) (by have h_ : ((ji47) : Int) < ((x11_35.length : Int) : Int) := of_decide_eq_true qqp; first | exact h_) (seg := [.bool true]) (j := 4) (show 5 ≤ 8 from by decide) (x' := (⟨(rd_T38 x11_35 (ji47)).f0, (rd_T38 x11_35 (ji47)).f1, (rd_T38 x11_35 (ji47)).f2, (rd_T38 x11_35 (ji47)).f3, true, (rd_T38 x11_35 (ji47)).f5, (rd_T38 x11_35 (ji47)).f6, (rd_T38 x11_35 (ji47)).f7⟩ : S38)) (k38_mkM _ _ _ (⟨(rd_T38 x11_35 (ji47)).f0, (rd_T38 x11_35 (ji47)).f1, (rd_T38 x11_35 (ji47)).f2, (rd_T38 x11_35 (ji47)).f3, true, (rd_T38 x11_35 (ji47)).f5, (rd_T38 x11_35 (ji47)).f6, (rd_T38 x11_35 (ji47)).f7⟩ : S38) (Kd.R_mono ge55_2 (fun _ h_ => Or.inl h_))) (fun _ hk => hk) (fun k_ hk_ => hk_.elim)
                        have hx55_4 := hcc55 4 _ rfl
                        (try simp only [show (k38).sz = 8 from rfl, Nat.mul_one, Nat.add_zero] at hx55_4)
                        have hf55_4 := hfr55 4
                        (try simp only [show (k38).sz = 8 from rfl, Nat.mul_one, Nat.add_zero] at hf55_4)
                        clear hcl55 hcc55 hfr55 hM55 hoki55 hH55
                        go_wp2_with (first | ((with_reducible refine gate_store (t := 4) (p := 89) rfl ?_); refine store_event (t := 4) (p := 89) (v := ?vo_w56) (w1 := (wc.setCell ⟨go23, ((ji47) : Int).toNat * 8 + 4, none⟩ (.bool true))) ?hg ?ho ?hn ?hr ?_; (case ho => rfl); (case hg => rfl); (case hn => rfl); (case hr => exact qqJ); intro w56 hw; have hg : wc.grownBy w56 (some go23) := (by rw [hw]; exact HP55.2); have hp_ : Kd.S k38 38 w56 w.heap.size (fun _ => True) (.slice (some ⟨go23, 0, none⟩) x11_35.length co16) y118 := (by rw [hw, Ny118.out]; exact HP55.1); clear HP55; replace HO_11 := Aside0.mk (hp_); replace HB := Aside0.mk ((qqD : Below w.heap.size w w56)); clear hg hw hp_; have p54 : 0 ≤ ((ji51) : Int) := of_decide_eq_true qqp; have q54 : ((ji51) : Int) < ((x11_35.length : Int) : Int) := of_decide_eq_true qqp; obtain ⟨_, ce54, hcl54, hM54, hcc54, hfr54, _, _⟩ := Kd.S_elem HO_11.out z38 ((ji51) : Int) p54 q54; obtain ⟨ve54_2, rfl, ge54_2⟩ := k38_openM hM54; have hx54_0 : w56.cell? ⟨go23, ((ji51) : Int).toNat * 8, none⟩ = some (.bool ((rd_T38 y118 (ji51)).f0)) := hcc54 0 _ rfl; have hx54_1 : w56.cell? ⟨go23, ((ji51) : Int).toNat * 8 + 1, none⟩ = some (.int .i64 ((rd_T38 y118 (ji51)).f1)) := hcc54 1 _ rfl; have hx54_2 : w56.cell? ⟨go23, ((ji51) : Int).toNat * 8 + 2, none⟩ = some (ve54_2) := hcc54 2 _ rfl; have hx54_3 : w56.cell? ⟨go23, ((ji51) : Int).toNat * 8 + 3, none⟩ = some (.bool ((rd_T38 y118 (ji51)).f3)) := hcc54 3 _ rfl; have hx54_4 : w56.cell? ⟨go23, ((ji51) : Int).toNat * 8 + 4, none⟩ = some (.bool ((rd_T38 y118 (ji51)).f4)) := hcc54 4 _ rfl; have hx54_5 : w56.cell? ⟨go23, ((ji51) : Int).toNat * 8 + 5, none⟩ = some (.bool ((rd_T38 y118 (ji51)).f5)) := hcc54 5 _ rfl; have hx54_6 : w56.cell? ⟨go23, ((ji51) : Int).toNat * 8 + 6, none⟩ = some (.bool ((rd_T38 y118 (ji51)).f6)) := hcc54 6 _ rfl; have hx54_7 : w56.cell? ⟨go23, ((ji51) : Int).toNat * 8 + 7, none⟩ = some (.int .i64 ((rd_T38 y118 (ji51)).f7)) := hcc54 7 _ rfl; have hf54_0 : w56.frozen? ⟨go23, ((ji51) : Int).toNat * 8, none⟩ = false := hfr54 0; have hf54_1 : w56.frozen? ⟨go23, ((ji51) : Int).toNat * 8 + 1, none⟩ = false := hfr54 1; have hf54_2 : w56.frozen? ⟨go23, ((ji51) : Int).toNat * 8 + 2, none⟩ = false := hfr54 2; have hf54_3 : w56.frozen? ⟨go23, ((ji51) : Int).toNat * 8 + 3, none⟩ = false := hfr54 3; have hf54_4 : w56.frozen? ⟨go23, ((ji51) : Int).toNat * 8 + 4, none⟩ = false := hfr54 4; have hf54_5 : w56.frozen? ⟨go23, ((ji51) : Int).toNat * 8 + 5, none⟩ = false := hfr54 5; have hf54_6 : w56.frozen? ⟨go23, ((ji51) : Int).toNat * 8 + 6, none⟩ = false := hfr54 6; have hf54_7 : w56.frozen? ⟨go23, ((ji51) : Int).toNat * 8 + 7, none⟩ = false := hfr54 7; clear hcl54 hcc54 hfr54 hM54; replace p54 := eq_true p54; replace q54 := eq_true q54; have HX57 := Aside0.mk (show Kd.S k38 38 w56 w.heap.size (fun k_ => ((fun _ => True)) k_ ∧ ¬ ((fun _ => False)) k_) (.slice (some ⟨go23, 0, none⟩) x11_35.length co16) y118 from qqe); obtain ⟨oki57, ce57, hcl57, hM57, hcc57, hfr57, hoki57, hH57⟩ := Kd.S_elem HX57.out z38 ((ji51) : Int) (of_decide_eq_true qqp) (by have h_ : ((ji51) : Int) < ((x11_35.length : Int) : Int) := of_decide_eq_true qqp; first | exact h_); obtain ⟨ve57_2, rfl, ge57_2⟩ := k38_openM hM57; have HP57 := Kd.S_seg hH57 (of_decide_eq_true qqp) (by have h_ : ((ji51) : Int) < ((x11_35.length : Int) : Int) := of_decide_eq_true qqp; first | exact h_) (seg := [.bool true]) (j := 5) (show 6 ≤ 8 from by decide) (x' := (⟨(rd_T38 y118 (ji51)).f0, (rd_T38 y118 (ji51)).f1, (rd_T38 y118 (ji51)).f2, (rd_T38 y118 (ji51)).f3, (rd_T38 y118 (ji51)).f4, true, (rd_T38 y118 (ji51)).f6, (rd_T38 y118 (ji51)).f7⟩ : S38)) (k38_mkM _ _ _ (⟨(rd_T38 y118 (ji51)).f0, (rd_T38 y118 (ji51)).f1, (rd_T38 y118 (ji51)).f2, (rd_T38 y118 (ji51)).f3, (rd_T38 y118 (ji51)).f4, true, (rd_T38 y118 (ji51)).f6, (rd_T38 y118 (ji51)).f7⟩ : S38) (Kd.R_mono ge57_2 (fun _ h_ => Or.inl h_))) (fun _ hk => hk) (fun k_ hk_ => hk_.elim); have hx57_5 := hcc57 5 _ rfl; (try simp only [show (k38).sz = 8 from rfl, Nat.mul_one, Nat.add_zero] at hx57_5); have hf57_5 := hfr57 5; (try simp only [show (k38).sz = 8 from rfl, Nat.mul_one, Nat.add_zero] at hf57_5); clear hcl57 hcc57 hfr57 hM57 hoki57 hH57) | ((with_reducible refine gate_store (t := 4) (p := 97) rfl ?_); refine store_event (t := 4) (p := 97) (v := ?vo_w58) (w1 := (w56.setCell ⟨go23, ((ji51) : Int).toNat * 8 + 5, none⟩ (.bool true))) ?hg ?ho ?hn ?hr ?_; (case ho => rfl); (case hg => rfl); (case hn => rfl); (case hr => exact qqJ); intro w58 hw; have hg : w56.grownBy w58 (some go23) := (by rw [hw]; exact HP57.2); have hp_ : Kd.S k38 38 w58 w.heap.size (fun _ => True) (.slice (some ⟨go23, 0, none⟩) x11_35.length co16) y119 := (by rw [hw, Ny119.out]; exact HP57.1); clear HP57; replace HO_11 := Aside0.mk (hp_); replace HB := Aside0.mk ((qqD : Below w.heap.size w w58)); clear hg hw hp_))
                        go_ret
                        exact ⟨_, by first | rfl, qqk, qB HB.out⟩
                      rw [if_neg c45] at H
                      have c45b0 : ((wrap64 (Int.tmod a1 7)) == 3) = false := beq_eq_false_iff_ne.mpr c45
                      have c45b1 : ((wrap64 (Int.tmod a1 7)) != 3) = true := bne_iff_ne.mpr c45
                      by_cases c59 : (wrap64 (Int.tmod a1 7)) = 6
                      rotate_left
                      · rw [if_neg c59] at H
                        have c59b0 : ((wrap64 (Int.tmod a1 7)) == 6) = false := beq_eq_false_iff_ne.mpr c59
                        have c59b1 : ((wrap64 (Int.tmod a1 7)) != 6) = true := bne_iff_ne.mpr c59
                        obtain rfl := Option.some.inj H
                        go_wp2
                        go_ret
                        exact ⟨_, by first | rfl, qqk, qB HB.out⟩
                      rw [if_pos c59] at H
                      have c59b0 : ((wrap64 (Int.tmod a1 7)) == 6) = true := beq_iff_eq.mpr c59
                      have c59b1 : ((wrap64 (Int.tmod a1 7)) != 6) = false := bne_eq_false_iff_eq.mpr c59
                      clear c59
                      by_cases c60 : (x11_35.length : Int) = 0
                      · rw [if_pos c60] at H
                        exact absurd H (by simp)
                      rw [if_neg c60] at H
                      have c60b0 : ((x11_35.length : Int) == 0) = false := beq_eq_false_iff_ne.mpr c60
                      have c60b1 : ((x11_35.length : Int) != 0) = true := bne_iff_ne.mpr c60
                      have c60b2 : ¬ (x11_35 = []) := fun h_ => c60 (by rw [h_]; rfl)
                      obtain ⟨ji61, hji61⟩ : ∃ j_ : Int, (Int.tmod (wrap64 (a4)) (x11_35.length : Int)) = j_ := ⟨_, rfl⟩
                      replace H : (if 0 ≤ (ji61) then (if (ji61) < (x11_35.length : Int) then ((some (x11_35.set ((ji61) : Int).toNat (⟨(rd_T38 x11_35 (ji61)).f0, (rd_T38 x11_35 (ji61)).f1, (rd_T38 x11_35 (ji61)).f2, (rd_T38 x11_35 (ji61)).f3, true, (rd_T38 x11_35 (ji61)).f5, (rd_T38 x11_35 (ji61)).f6, (rd_T38 x11_35 (ji61)).f7⟩ : S38) : List (S38))).bind fun y120 => (if 0 ≤ (((Int.tdiv a4 3) % 256) % (x11_35.length : Int)) then (if (((Int.tdiv a4 3) % 256) % (x11_35.length : Int)) < (x11_35.length : Int) then (some (y120.set ((((Int.tdiv a4 3) % 256) % (x11_35.length : Int)) : Int).toNat (⟨(rd_T38 y120 (((Int.tdiv a4 3) % 256) % (x11_35.length : Int))).f0, (rd_T38 y120 (((Int.tdiv a4 3) % 256) % (x11_35.length : Int))).f1, (rd_T38 y120 (((Int.tdiv a4 3) % 256) % (x11_35.length : Int))).f2, (rd_T38 y120 (((Int.tdiv a4 3) % 256) % (x11_35.length : Int))).f3, (rd_T38 y120 (((Int.tdiv a4 3) % 256) % (x11_35.length : Int))).f4, true, (rd_T38 y120 (((Int.tdiv a4 3) % 256) % (x11_35.length : Int))).f6, (rd_T38 y120 (((Int.tdiv a4 3) % 256) % (x11_35.length : Int))).f7⟩ : S38))) else (none)) else (none))) else (none)) else (none)) = some r := by first | (rw [hji61] at H; exact H)
                      by_cases c62 : 0 ≤ (ji61)
                      rotate_left
                      · rw [if_neg c62] at H
                        exact absurd H (by simp)
                      rw [if_pos c62] at H
                      have c62b0 : decide (0 ≤ (ji61)) = true := decide_eq_true c62
                      clear c62
                      by_cases c63 : (ji61) < (x11_35.length : Int)
                      rotate_left
                      · rw [if_neg c63] at H
                        exact absurd H (by simp)
                      rw [if_pos c63] at H
                      have c63b0 : decide ((ji61) < (x11_35.length : Int)) = true := decide_eq_true c63
                      clear c63
                      obtain ⟨y120, hy120⟩ : ∃ y_ : List (S38), y_ = (x11_35.set ((ji61) : Int).toNat (⟨(rd_T38 x11_35 (ji61)).f0, (rd_T38 x11_35 (ji61)).f1, (rd_T38 x11_35 (ji61)).f2, (rd_T38 x11_35 (ji61)).f3, true, (rd_T38 x11_35 (ji61)).f5, (rd_T38 x11_35 (ji61)).f6, (rd_T38 x11_35 (ji61)).f7⟩ : S38)) := ⟨_, rfl⟩
                      replace H : (if 0 ≤ (((Int.tdiv a4 3) % 256) % (x11_35.length : Int)) then (if (((Int.tdiv a4 3) % 256) % (x11_35.length : Int)) < (x11_35.length : Int) then (some (y120.set ((((Int.tdiv a4 3) % 256) % (x11_35.length : Int)) : Int).toNat (⟨(rd_T38 y120 (((Int.tdiv a4 3) % 256) % (x11_35.length : Int))).f0, (rd_T38 y120 (((Int.tdiv a4 3) % 256) % (x11_35.length : Int))).f1, (rd_T38 y120 (((Int.tdiv a4 3) % 256) % (x11_35.length : Int))).f2, (rd_T38 y120 (((Int.tdiv a4 3) % 256) % (x11_35.length : Int))).f3, (rd_T38 y120 (((Int.tdiv a4 3) % 256) % (x11_35.length : Int))).f4, true, (rd_T38 y120 (((Int.tdiv a4 3) % 256) % (x11_35.length : Int))).f6, (rd_T38 y120 (((Int.tdiv a4 3) % 256) % (x11_35.length : Int))).f7⟩ : S38))) else (none)) else (none)) = some r := by first | (have H2_ := (Option.bind_some _ _).symm.trans H; rw [hy120]; with_reducible exact H2_)
                      have Ny120 := Aside0.mk hy120
                      clear hy120
                      obtain ⟨ji65, hji65⟩ : ∃ j_ : Int, (((Int.tdiv a4 3) % 256) % (x11_35.length : Int)) = j_ := ⟨_, rfl⟩
                      replace H : (if 0 ≤ (ji65) then (if (ji65) < (x11_35.length : Int) then (some (y120.set ((ji65) : Int).toNat (⟨(rd_T38 y120 (ji65)).f0, (rd_T38 y120 (ji65)).f1, (rd_T38 y120 (ji65)).f2, (rd_T38 y120 (ji65)).f3, (rd_T38 y120 (ji65)).f4, true, (rd_T38 y120 (ji65)).f6, (rd_T38 y120 (ji65)).f7⟩ : S38))) else (none)) else (none)) = some r := by first | (rw [hji65] at H; exact H)
                      by_cases c66 : 0 ≤ (ji65)
                      rotate_left
                      · rw [if_neg c66] at H
                        exact absurd H (by simp)
                      rw [if_pos c66] at H
                      have c66b0 : decide (0 ≤ (ji65)) = true := decide_eq_true c66
                      clear c66
                      by_cases c67 : (ji65) < (x11_35.length : Int)
                      rotate_left
                      · rw [if_neg c67] at H
                        exact absurd H (by simp)
                      rw [if_pos c67] at H
                      have c67b0 : decide ((ji65) < (x11_35.length : Int)) = true := decide_eq_true c67
                      clear c67
                      obtain ⟨y121, hy121⟩ : ∃ y_ : List (S38), y_ = (y120.set ((ji65) : Int).toNat (⟨(rd_T38 y120 (ji65)).f0, (rd_T38 y120 (ji65)).f1, (rd_T38 y120 (ji65)).f2, (rd_T38 y120 (ji65)).f3, (rd_T38 y120 (ji65)).f4, true, (rd_T38 y120 (ji65)).f6, (rd_T38 y120 (ji65)).f7⟩ : S38)) := ⟨_, rfl⟩
                      replace H : (some y121) = some r := by first | (rw [hy121]; with_reducible exact H)
                      have Ny121 := Aside0.mk hy121
                      clear hy121
                      obtain rfl := Option.some.inj H
                      have p64 : 0 ≤ ((ji61) : Int) := of_decide_eq_true qqp
                      have q64 : ((ji61) : Int) < ((x11_35.length : Int) : Int) := of_decide_eq_true qqp
                      obtain ⟨_, ce64, hcl64, hM64, hcc64, hfr64, _, _⟩ := Kd.S_elem HO_11.out z38 ((ji61) : Int) p64 q64
                      obtain ⟨ve64_2, rfl, ge64_2⟩ := k38_openM hM64
                      have hx64_0 : wc.cell? ⟨go23, ((ji61) : Int).toNat * 8, none⟩ = some (.bool ((rd_T38 x11_35 (ji61)).f0)) := hcc64 0 _ rfl
                      have hx64_1 : wc.cell? ⟨go23, ((ji61) : Int).toNat * 8 + 1, none⟩ = some (.int .i64 ((rd_T38 x11_35 (ji61)).f1)) := hcc64 1 _ rfl
                      have hx64_2 : wc.cell? ⟨go23, ((ji61) : Int).toNat * 8 + 2, none⟩ = some (ve64_2) := hcc64 2 _ rfl
                      have hx64_3 : wc.cell? ⟨go23, ((ji61) : Int).toNat * 8 + 3, none⟩ = some (.bool ((rd_T38 x11_35 (ji61)).f3)) := hcc64 3 _ rfl
                      have hx64_4 : wc.cell? ⟨go23, ((ji61) : Int).toNat * 8 + 4, none⟩ = some (.bool ((rd_T38 x11_35 (ji61)).f4)) := hcc64 4 _ rfl
                      have hx64_5 : wc.cell? ⟨go23, ((ji61) : Int).toNat * 8 + 5, none⟩ = some (.bool ((rd_T38 x11_35 (ji61)).f5)) := hcc64 5 _ rfl
                      have hx64_6 : wc.cell? ⟨go23, ((ji61) : Int).toNat * 8 + 6, none⟩ = some (.bool ((rd_T38 x11_35 (ji61)).f6)) := hcc64 6 _ rfl
                      have hx64_7 : wc.cell? ⟨go23, ((ji61) : Int).toNat * 8 + 7, none⟩ = some (.int .i64 ((rd_T38 x11_35 (ji61)).f7)) := hcc64 7 _ rfl
                      have hf64_0 : wc.frozen? ⟨go23, ((ji61) : Int).toNat * 8, none⟩ = false := hfr64 0
                      have hf64_1 : wc.frozen? ⟨go23, ((ji61) : Int).toNat * 8 + 1, none⟩ = false := hfr64 1
                      have hf64_2 : wc.frozen? ⟨go23, ((ji61) : Int).toNat * 8 + 2, none⟩ = false := hfr64 2
                      have hf64_3 : wc.frozen? ⟨go23, ((ji61) : Int).toNat * 8 + 3, none⟩ = false := hfr64 3
                      have hf64_4 : wc.frozen? ⟨go23, ((ji61) : Int).toNat * 8 + 4, none⟩ = false := hfr64 4
                      have hf64_5 : wc.frozen? ⟨go23, ((ji61) : Int).toNat * 8 + 5, none⟩ = false := hfr64 5
                      have hf64_6 : wc.frozen? ⟨go23, ((ji61) : Int).toNat * 8 + 6, none⟩ = false := hfr64 6
                      have hf64_7 : wc.frozen? ⟨go23, ((ji61) : Int).toNat * 8 + 7, none⟩ = false := hfr64 7
                      clear hcl64 hcc64 hfr64 hM64
                      replace p64 := eq_true p64
                      replace q64 := eq_true q64
                      have HX69 := Aside0.mk (show Kd.S k38 38 wc w.heap.size (fun k_ => ((fun _ => True)) k_ ∧ ¬ ((fun _ => False)) k_) (.slice (some ⟨go23, 0, none⟩) x11_35.length co16) x11_35 from qqe)
                      obtain ⟨oki69, ce69, hcl69, hM69, hcc69, hfr69, hoki69, hH69⟩ := Kd.S_elem HX69.out z38 ((ji61) : Int) (of_decide_eq_true qqp) (by have h_ : ((ji61) : Int) < ((x11_35.length : Int) : Int) := of_decide_eq_true qqp; first | exact h_)
                      obtain ⟨ve69_2, rfl, ge69_2⟩ := k38_openM hM69
                      have HP69 := Kd.S_seg hH69 (of_decide_eq_true qqp) (by have h_ : ((ji61) : Int) < ((x11_35.length : Int) : Int) := of_decide_eq_true qqp; first | exact h_) (seg := [.bool true]) (j := 4) (show 5 ≤ 8 from by decide) (x' := (⟨(rd_T38 x11_35 (ji61)).f0, (rd_T38 x11_35 (ji61)).f1, (rd_T38 x11_35 (ji61)).f2, (rd_T38 x11_35 (ji61)).f3, true, (rd_T38 x11_35 (ji61)).f5, (rd_T38 x11_35 (ji61)).f6, (rd_T38 x11_35 (ji61)).f7⟩ : S38)) (k38_mkM _ _ _ (⟨(rd_T38 x11_35 (ji61)).f0, (rd_T38 x11_35 (ji61)).f1, (rd_T38 x11_35 (ji61)).f2, (rd_T38 x11_35 (ji61)).f3, true, (rd_T38 x11_35 (ji61)).f5, (rd_T38 x11_35 (ji61)).f6, (rd_T38 x11_35 (ji61)).f7⟩ : S38) (Kd.R_mono ge69_2 (fun _ h_ => Or.inl h_))) (fun _ hk => hk) (fun k_ hk_ => hk_.elim)
                      have hx69_4 := hcc69 4 _ rfl
                      (try simp only [show (k38).sz = 8 from rfl, Nat.mul_one, Nat.add_zero] at hx69_4)
                      have hf69_4 := hfr69 4
                      (try simp only [show (k38).sz = 8 from rfl, Nat.mul_one, Nat.add_zero] at hf69_4)
                      clear hcl69 hcc69 hfr69 hM69 hoki69 hH69
                      go_wp2_with (first | ((with_reducible refine gate_store (t := 4) (p := 89) rfl ?_); refine store_event (t := 4) (p := 89) (v := ?vo_w70) (w1 := (wc.setCell ⟨go23, ((ji61) : Int).toNat * 8 + 4, none⟩ (.bool true))) ?hg ?ho ?hn ?hr ?_; (case ho => rfl); (case hg => rfl); (case hn => rfl); (case hr => exact qqJ); intro w70 hw; have hg : wc.grownBy w70 (some go23) := (by rw [hw]; exact HP69.2); have hp_ : Kd.S k38 38 w70 w.heap.size (fun _ => True) (.slice (some ⟨go23, 0, none⟩) x11_35.length co16) y120 := (by rw [hw, Ny120.out]; exact HP69.1); clear HP69; replace HO_11 := Aside0.mk (hp_); replace HB := Aside0.mk ((qqD : Below w.heap.size w w70)); clear hg hw hp_; have p68 : 0 ≤ ((ji65) : Int) := of_decide_eq_true qqp; have q68 : ((ji65) : Int) < ((x11_35.length : Int) : Int) := of_decide_eq_true qqp; obtain ⟨_, ce68, hcl68, hM68, hcc68, hfr68, _, _⟩ := Kd.S_elem HO_11.out z38 ((ji65) : Int) p68 q68; obtain ⟨ve68_2, rfl, ge68_2⟩ := k38_openM hM68; have hx68_0 : w70.cell? ⟨go23, ((ji65) : Int).toNat * 8, none⟩ = some (.bool ((rd_T38 y120 (ji65)).f0)) := hcc68 0 _ rfl; have hx68_1 : w70.cell? ⟨go23, ((ji65) : Int).toNat * 8 + 1, none⟩ = some (.int .i64 ((rd_T38 y120 (ji65)).f1)) := hcc68 1 _ rfl; have hx68_2 : w70.cell? ⟨go23, ((ji65) : Int).toNat * 8 + 2, none⟩ = some (ve68_2) := hcc68 2 _ rfl; have hx68_3 : w70.cell? ⟨go23, ((ji65) : Int).toNat * 8 + 3, none⟩ = some (.bool ((rd_T38 y120 (ji65)).f3)) := hcc68 3 _ rfl; have hx68_4 : w70.cell? ⟨go23, ((ji65) : Int).toNat * 8 + 4, none⟩ = some (.bool ((rd_T38 y120 (ji65)).f4)) := hcc68 4 _ rfl; have hx68_5 : w70.cell? ⟨go23, ((ji65) : Int).toNat * 8 + 5, none⟩ = some (.bool ((rd_T38 y120 (ji65)).f5)) := hcc68 5 _ rfl; have hx68_6 : w70.cell? ⟨go23, ((ji65) : Int).toNat * 8 + 6, none⟩ = some (.bool ((rd_T38 y120 (ji65)).f6)) := hcc68 6 _ rfl; have hx68_7 : w70.cell? ⟨go23, ((ji65) : Int).toNat * 8 + 7, none⟩ = some (.int .i64 ((rd_T38 y120 (ji65)).f7)) := hcc68 7 _ rfl; have hf68_0 : w70.frozen? ⟨go23, ((ji65) : Int).toNat * 8, none⟩ = false := hfr68 0; have hf68_1 : w70.frozen? ⟨go23, ((ji65) : Int).toNat * 8 + 1, none⟩ = false := hfr68 1; have hf68_2 : w70.frozen? ⟨go23, ((ji65) : Int).toNat * 8 + 2, none⟩ = false := hfr68 2; have hf68_3 : w70.frozen? ⟨go23, ((ji65) : Int).toNat * 8 + 3, none⟩ = false := hfr68 3; have hf68_4 : w70.frozen? ⟨go23, ((ji65) : Int).toNat * 8 + 4, none⟩ = false := hfr68 4; have hf68_5 : w70.frozen? ⟨go23, ((ji65) : Int).toNat * 8 + 5, none⟩ = false := hfr68 5; have hf68_6 : w70.frozen? ⟨go23, ((ji65) : Int).toNat * 8 + 6, none⟩ = false := hfr68 6; have hf68_7 : w70.frozen? ⟨go23, ((ji65) : Int).toNat * 8 + 7, none⟩ = false := hfr68 7; clear hcl68 hcc68 hfr68 hM68; replace p68 := eq_true p68; replace q68 := eq_true q68; have HX71 := Aside0.mk (show Kd.S k38 38 w70 w.heap.size (fun k_ => ((fun _ => True)) k_ ∧ ¬ ((fun _ => False)) k_) (.slice (some ⟨go23, 0, none⟩) x11_35.length co16) y120 from qqe); obtain ⟨oki71, ce71, hcl71, hM71, hcc71, hfr71, hoki71, hH71⟩ := Kd.S_elem HX71.out z38 ((ji65) : Int) (of_decide_eq_true qqp) (by have h_ : ((ji65) : Int) < ((x11_35.length : Int) : Int) := of_decide_eq_true qqp; first | exact h_); obtain ⟨ve71_2, rfl, ge71_2⟩ := k38_openM hM71; have HP71 := Kd.S_seg hH71 (of_decide_eq_true qqp) (by have h_ : ((ji65) : Int) < ((x11_35.length : Int) : Int) := of_decide_eq_true qqp; first | exact h_) (seg := [.bool true]) (j := 5) (show 6 ≤ 8 from by decide) (x' := (⟨(rd_T38 y120 (ji65)).f0, (rd_T38 y120 (ji65)).f1, (rd_T38 y120 (ji65)).f2, (rd_T38 y120 (ji65)).f3, (rd_T38 y120 (ji65)).f4, true, (rd_T38 y120 (ji65)).f6, (rd_T38 y120 (ji65)).f7⟩ : S38)) (k38_mkM _ _ _ (⟨(rd_T38 y120 (ji65)).f0, (rd_T38 y120 (ji65)).f1, (rd_T38 y120 (ji65)).f2, (rd_T38 y120 (ji65)).f3, (rd_T38 y120 (ji65)).f4, true, (rd_T38 y120 (ji65)).f6, (rd_T38 y120 (ji65)).f7⟩ : S38) (Kd.R_mono ge71_2 (fun _ h_ => Or.inl h_))) (fun _ hk => hk) (fun k_ hk_ => hk_.elim); have hx71_5 := hcc71 5 _ rfl; (try simp only [show (k38).sz = 8 from rfl, Nat.mul_one, Nat.add_zero] at hx71_5); have hf71_5 := hfr71 5; (try simp only [show (k38).sz = 8 from rfl, Nat.mul_one, Nat.add_zero] at hf71_5); clear hcl71 hcc71 hfr71 hM71 hoki71 hH71) | ((with_reducible refine gate_store (t := 4) (p := 97) rfl ?_); refine store_event (t := 4) (p := 97) (v := ?vo_w72) (w1 := (w70.setCell ⟨go23, ((ji65) : Int).toNat * 8 + 5, none⟩ (.bool true))) ?hg ?ho ?hn ?hr ?_; (case ho => rfl); (case hg => rfl); (case hn => rfl); (case hr => exact qqJ); intro w72 hw; have hg : w70.grownBy w72 (some go23) := (by rw [hw]; exact HP71.2); have hp_ : Kd.S k38 38 w72 w.heap.size (fun _ => True) (.slice (some ⟨go23, 0, none⟩) x11_35.length co16) y121 := (by rw [hw, Ny121.out]; exact HP71.1); clear HP71; replace HO_11 := Aside0.mk (hp_); replace HB := Aside0.mk ((qqD : Below w.heap.size w w72)); clear hg hw hp_))
                      go_ret
                      exact ⟨_, by first | rfl, qqk, qB HB.out⟩
mutual
def partitaref10_right.j0 : Nat → Bool → Bool → Int → List Int → Bool → Bool → Bool → Bool → Int → Option (Bool)
  | 0, _, _, _, _, _, _, _, _, _ => none
  | k + 1, x26, x102000, x102001, x102002, x102003, x102004, x102005, x102006, x102007 => if x26 = true then (some false) else (partitaref10_right.l0 k 0 x102000 x102001 x102002 x102003 x102004 x102005 x102006 x102007)
def partitaref10_right.l0 : Nat → Int → Bool → Int → List Int → Bool → Bool → Bool → Bool → Int → Option (Bool)
  | 0, _, _, _, _, _, _, _, _, _ => none
  | k + 1, x3, x102000, x102001, x102002, x102003, x102004, x102005, x102006, x102007 => if x3 < (x102002.length : Int) then (if 0 ≤ x3 then (if (rd x102002 x3) < 1 then (some false) else (if (rd x102002 x3) > 9 then (some false) else (if x3 > 0 then (if 0 ≤ (wrap64 (x3 - 1)) then (if (wrap64 (x3 - 1)) < (x102002.length : Int) then (if (rd x102002 x3) ≤ (rd x102002 (wrap64 (x3 - 1))) then (some false) else (partitaref10_right.l0 k (wrap64 (x3 + 1)) x102000 x102001 x102002 x102003 x102004 x102005 x102006 x102007)) else (none)) else (none)) else (partitaref10_right.l0 k (wrap64 (x3 + 1)) x102000 x102001 x102002 x102003 x102004 x102005 x102006 x102007)))) else (none)) else (some true)
end
def partitaref10_right.f (k : Nat) (a0_0 : Bool) (a0_1 : Int) (l0_2 : List Int) (a0_3 : Bool) (a0_4 : Bool) (a0_5 : Bool) (a0_6 : Bool) (a0_7 : Int) : Option (Bool) := if a0_1 < 0 then (partitaref10_right.j0 k true a0_0 a0_1 l0_2 a0_3 a0_4 a0_5 a0_6 a0_7) else (if a0_1 = 1 then (partitaref10_right.j0 k true a0_0 a0_1 l0_2 a0_3 a0_4 a0_5 a0_6 a0_7) else (if a0_1 > 9 then (partitaref10_right.j0 k true a0_0 a0_1 l0_2 a0_3 a0_4 a0_5 a0_6 a0_7) else (if a0_7 < 0 then (partitaref10_right.j0 k true a0_0 a0_1 l0_2 a0_3 a0_4 a0_5 a0_6 a0_7) else (partitaref10_right.j0 k (decide (a0_7 > 6)) a0_0 a0_1 l0_2 a0_3 a0_4 a0_5 a0_6 a0_7))))
theorem partitaref10_right.mono_l : ∀ k, (∀ y0 y1 y2 y3 y4 y5 y6 y7 y8, LeO (partitaref10_right.j0 k y0 y1 y2 y3 y4 y5 y6 y7 y8) (partitaref10_right.j0 (k + 1) y0 y1 y2 y3 y4 y5 y6 y7 y8)) ∧ (∀ y0 y1 y2 y3 y4 y5 y6 y7 y8, LeO (partitaref10_right.l0 k y0 y1 y2 y3 y4 y5 y6 y7 y8) (partitaref10_right.l0 (k + 1) y0 y1 y2 y3 y4 y5 y6 y7 y8))
  | 0 => ⟨fun _ _ _ _ _ _ _ _ _ r h => by simp [partitaref10_right.j0] at h, fun _ _ _ _ _ _ _ _ _ r h => by simp [partitaref10_right.l0] at h⟩
  | k + 1 => by
    obtain ⟨ih0, ih1⟩ := partitaref10_right.mono_l k
    refine ⟨?_, ?_⟩
    · intro y0 y1 y2 y3 y4 y5 y6 y7 y8
      unfold partitaref10_right.j0
      repeat' first
      | (with_reducible exact ih0 _ _ _ _ _ _ _ _ _)
      | (with_reducible exact ih1 _ _ _ _ _ _ _ _ _)
      | (with_reducible exact LeO.refl _)
      | (with_reducible exact LeO.none _)
      | (with_reducible refine LeO.ite ?_ ?_)
      | (with_reducible refine LeO.bind ?_ (fun _ => ?_))
      | exact ih0 _ _ _ _ _ _ _ _ _
      | exact ih1 _ _ _ _ _ _ _ _ _
      | exact LeO.none _
      | refine LeO.ite ?_ ?_
      | refine LeO.bind ?_ (fun _ => ?_)
    · intro y0 y1 y2 y3 y4 y5 y6 y7 y8
      unfold partitaref10_right.l0
      repeat' first
      | (with_reducible exact ih0 _ _ _ _ _ _ _ _ _)
      | (with_reducible exact ih1 _ _ _ _ _ _ _ _ _)
      | (with_reducible exact LeO.refl _)
      | (with_reducible exact LeO.none _)
      | (with_reducible refine LeO.ite ?_ ?_)
      | (with_reducible refine LeO.bind ?_ (fun _ => ?_))
      | exact ih0 _ _ _ _ _ _ _ _ _
      | exact ih1 _ _ _ _ _ _ _ _ _
      | exact LeO.none _
      | refine LeO.ite ?_ ?_
      | refine LeO.bind ?_ (fun _ => ?_)
theorem partitaref10_right.mono : ∀ a0 a1 a2 a3 a4 a5 a6 a7 k, LeO (partitaref10_right.f k a0 a1 a2 a3 a4 a5 a6 a7) (partitaref10_right.f (k + 1) a0 a1 a2 a3 a4 a5 a6 a7) := by
  intro a0 a1 a2 a3 a4 a5 a6 a7 k
  obtain ⟨ih0, ih1⟩ := partitaref10_right.mono_l k
  unfold partitaref10_right.f
  repeat' first
      | (with_reducible exact ih0 _ _ _ _ _ _ _ _ _)
      | (with_reducible exact ih1 _ _ _ _ _ _ _ _ _)
      | (with_reducible exact LeO.refl _)
      | (with_reducible exact LeO.none _)
      | (with_reducible refine LeO.ite ?_ ?_)
      | (with_reducible refine LeO.bind ?_ (fun _ => ?_))
      | exact ih0 _ _ _ _ _ _ _ _ _
      | exact ih1 _ _ _ _ _ _ _ _ _
      | exact LeO.none _
      | refine LeO.ite ?_ ?_
      | refine LeO.bind ?_ (fun _ => ?_)
set_option maxHeartbeats 8000000 in
set_option maxRecDepth 100000 in
theorem partitaref10_right.calls (k : Nat) (a0_0 : Bool) (a0_1 : Int) (A0_2 : Option Addr) (c0_2 : Nat) (l0_2 : List Int) (a0_3 : Bool) (a0_4 : Bool) (a0_5 : Bool) (a0_6 : Bool) (a0_7 : Int) (r : Bool) (w : World) (hr0_2 : Kd.C (Kd.int .i64) w A0_2 l0_2.length l0_2) (hc0_2 : l0_2.length ≤ c0_2) (h : partitaref10_right.f k a0_0 a0_1 l0_2 a0_3 a0_4 a0_5 a0_6 a0_7 = some r) :
    Calls Try.prog 31 #[.agg #[.bool a0_0, .int .i64 a0_1, .slice A0_2 l0_2.length c0_2, .bool a0_3, .bool a0_4, .bool a0_5, .bool a0_6, .int .i64 a0_7]] w fun e w' => e = .returned (.bool r) ∧ Below w.heap.size w w' := by
  have hu38 := Try.underlying38
  have HR0_2 := Aside0.mk hr0_2
  have HC0_2 := Aside0.mk hc0_2
  clear hr0_2 hc0_2
  have HB := Aside0.mk (Below.refl w.heap.size w)
  have H := h
  unfold partitaref10_right.f at H
  clear h
  have HC2 := Aside0.mk H
  clear H
  go_enter Try.func31, Try.ntmps31
  go_upto_region 1 with (first | ((with_reducible refine gate_dst (N := 1) rfl ?_); refine box_event ?hg (N := 1) ?hd (cs := #[.bool a0_0, .int .i64 a0_1, .slice A0_2 l0_2.length c0_2, .bool a0_3, .bool a0_4, .bool a0_5, .bool a0_6, .int .i64 a0_7]) (t := 38) ?hr ?_; (case hd => rfl); (case hg => rfl); (case hr => exact qqj); intro gb101 hg w3 hbox hb; have BK101 := Aside0.mk (hbox); have GW101 := Aside0.mk ((qqg : w.heap.size ≤ gb101)); have GE101 := Aside0.mk ((qqg : w.heap.size ≤ gb101)); replace HB := Aside0.mk (below_step (qB HB.out) hb); clear hb hbox hg))
  repeat (go_quiet (first | ((with_reducible refine gate_dst (N := 1) rfl ?_); refine box_event ?hg (N := 1) ?hd (cs := #[.bool a0_0, .int .i64 a0_1, .slice A0_2 l0_2.length c0_2, .bool a0_3, .bool a0_4, .bool a0_5, .bool a0_6, .int .i64 a0_7]) (t := 38) ?hr ?_; (case hd => rfl); (case hg => rfl); (case hr => exact qqj); intro gb101 hg w3 hbox hb; have BK101 := Aside0.mk (hbox); have GW101 := Aside0.mk ((qqg : w.heap.size ≤ gb101)); have GE101 := Aside0.mk ((qqg : w.heap.size ≤ gb101)); replace HB := Aside0.mk (below_step (qB HB.out) hb); clear hb hbox hg)); go_upto_region 1 with (first | ((with_reducible refine gate_dst (N := 1) rfl ?_); refine box_event ?hg (N := 1) ?hd (cs := #[.bool a0_0, .int .i64 a0_1, .slice A0_2 l0_2.length c0_2, .bool a0_3, .bool a0_4, .bool a0_5, .bool a0_6, .int .i64 a0_7]) (t := 38) ?hr ?_; (case hd => rfl); (case hg => rfl); (case hr => exact qqj); intro gb101 hg w3 hbox hb; have BK101 := Aside0.mk (hbox); have GW101 := Aside0.mk ((qqg : w.heap.size ≤ gb101)); have GE101 := Aside0.mk ((qqg : w.heap.size ≤ gb101)); replace HB := Aside0.mk (below_step (qB HB.out) hb); clear hb hbox hg)))
  (try simp only [Act.put, List.setIfInBounds_toArray, List.set_cons_zero, List.set_cons_succ])
  go_cut [26] (fun v26 wc => ∃ (kq : Nat) (x26_1 : Bool), v26 = .bool x26_1 ∧ Aside0 (partitaref10_right.j0 kq x26_1 a0_0 a0_1 l0_2 a0_3 a0_4 a0_5 a0_6 a0_7 = some r) ∧ Aside0 (kq ≤ k) ∧ Aside0 (wc.heap[gb101]? = some (.cells #[.bool a0_0, .int .i64 a0_1, (.slice A0_2 l0_2.length c0_2), .bool a0_3, .bool a0_4, .bool a0_5, .bool a0_6, .int .i64 a0_7] 38 (0, 0))) ∧ Aside0 (Below w.heap.size w wc))
  case first =>
    have H := HC2.out
    clear HC2
    by_cases c4 : a0_1 < 0
    · rw [if_pos c4] at H
      have c4b0 : decide (a0_1 < 0) = true := decide_eq_true c4
      clear c4
      (first | rw [c4b0] | (simp only [i64_w, i32_w]; rw [c4b0]) | skip)
      have H' := Aside0.mk H
      clear H
      have hz5 := cells8 BK101.out
      go_wp2
      repeat (go_quiet (fail); try go_wp2)
      go_meet
      case rel => exact ⟨_, (true), qq3, H', ⟨qqn⟩, ⟨bq BK101.out⟩, ⟨qS1 GE101 HB.out⟩⟩
    rw [if_neg c4] at H
    have c4b0 : decide (a0_1 < 0) = false := decide_eq_false c4
    clear c4
    (first | rw [c4b0] | (simp only [i64_w, i32_w]; rw [c4b0]) | skip)
    by_cases c6 : a0_1 = 1
    · rw [if_pos c6] at H
      have c6b0 : (a0_1 == 1) = true := beq_iff_eq.mpr c6
      have c6b1 : (a0_1 != 1) = false := bne_eq_false_iff_eq.mpr c6
      clear c6
      have H' := Aside0.mk H
      clear H
      have hz7 := cells8 BK101.out
      go_wp2
      repeat (go_quiet (fail); try go_wp2)
      go_meet
      case rel => exact ⟨_, (true), qq3, H', ⟨qqn⟩, ⟨bq BK101.out⟩, ⟨qS1 GE101 HB.out⟩⟩
    rw [if_neg c6] at H
    have c6b0 : (a0_1 == 1) = false := beq_eq_false_iff_ne.mpr c6
    have c6b1 : (a0_1 != 1) = true := bne_iff_ne.mpr c6
    by_cases c8 : a0_1 > 9
    · rw [if_pos c8] at H
      have c8b0 : decide (9 < a0_1) = true := decide_eq_true c8
      clear c8
      have H' := Aside0.mk H
      clear H
      have hz9 := cells8 BK101.out
      go_wp2
      repeat (go_quiet (fail); try go_wp2)
      go_meet
      case rel => exact ⟨_, (true), qq3, H', ⟨qqn⟩, ⟨bq BK101.out⟩, ⟨qS1 GE101 HB.out⟩⟩
    rw [if_neg c8] at H
    have c8b0 : decide (9 < a0_1) = false := decide_eq_false c8
    clear c8
    by_cases c10 : a0_7 < 0
    · rw [if_pos c10] at H
      have c10b0 : decide (a0_7 < 0) = true := decide_eq_true c10
      clear c10
      have H' := Aside0.mk H
      clear H
      have hz11 := cells8 BK101.out
      go_wp2
      repeat (go_quiet (fail); try go_wp2)
      go_meet
      case rel => exact ⟨_, (true), qq3, H', ⟨qqn⟩, ⟨bq BK101.out⟩, ⟨qS1 GE101 HB.out⟩⟩
    rw [if_neg c10] at H
    have c10b0 : decide (a0_7 < 0) = false := decide_eq_false c10
    clear c10
    have H' := Aside0.mk H
    clear H
    have hz12 := cells8 BK101.out
    go_wp2
    repeat (go_quiet (fail); try go_wp2)
    go_meet
    case rel => exact ⟨_, (decide (a0_7 > 6)), qq3, H', ⟨qqn⟩, ⟨bq BK101.out⟩, ⟨qS1 GE101 HB.out⟩⟩
  case rest =>
    clear HC2
    try clear c1
    try clear p2
    try clear c3
    try clear c4
    try clear c4b0
    try clear c6
    try clear c6b0
    try clear c6b1
    try clear c8
    try clear c8b0
    try clear c10
    try clear c10b0
    obtain ⟨kq, x26_1, rfl, HA, HJ1, BK101, HB⟩ := hcut
    cases kq with
    | zero => exact absurd HA.out (by simp [partitaref10_right.j0])
    | succ kj1 =>
      have H := HA.out
      clear HA
      simp only [partitaref10_right.j0] at H
      by_cases c13 : x26_1 = true
      · subst c13
        have H1 : (some false) = some r := by rw [if_pos rfl] at H; exact H
        clear H
        have H := H1
        clear H1
        obtain rfl := Option.some.inj H
        go_wp2
        repeat (go_quiet (fail); try go_wp2)
        go_ret
        exact ⟨qq2, qS1 GE101 HB.out⟩
      replace c13 := Bool.eq_false_iff.mpr c13
      subst c13
      have H1 : (partitaref10_right.l0 kj1 0 a0_0 a0_1 l0_2 a0_3 a0_4 a0_5 a0_6 a0_7) = some r := by rw [if_neg (show ¬ (false = true) by decide)] at H; exact H
      clear H
      have H := H1
      clear H1
      have H' := Aside0.mk H
      clear H
      go_wp2
      repeat (go_quiet (fail); try go_wp2)
      go_loopg [3] kj1 (fun kq v3 w' => ∃ (x3_2 : Int), v3 = .int .i64 x3_2 ∧ Aside0 (partitaref10_right.l0 kq x3_2 a0_0 a0_1 l0_2 a0_3 a0_4 a0_5 a0_6 a0_7 = some r) ∧ Aside0 (kq ≤ kj1) ∧ Aside0 (w'.heap[gb101]? = some (.cells #[.bool a0_0, .int .i64 a0_1, (.slice A0_2 l0_2.length c0_2), .bool a0_3, .bool a0_4, .bool a0_5, .bool a0_6, .int .i64 a0_7] 38 (0, 0))) ∧ Aside0 (Below w.heap.size w w'))
      case atStart => exact ⟨(0), qq3, H', ⟨Nat.le_refl _⟩, ⟨bq BK101.out⟩, ⟨qS1 GE101 HB.out⟩⟩
      case round =>
        clear H'
        try clear c1
        try clear p2
        try clear c3
        try clear c4
        try clear c4b0
        try clear c6
        try clear c6b0
        try clear c6b1
        try clear c8
        try clear c8b0
        try clear c10
        try clear c10b0
        try clear c13
        try clear p2
        obtain ⟨x3_2, rfl, HA, HK2, BK101, HB⟩ := hrel
        cases gk with
        | zero => exact absurd HA.out (by simp [partitaref10_right.l0])
        | succ k2 =>
          have H := HA.out
          clear HA
          simp only [partitaref10_right.l0] at H
          by_cases c14 : x3_2 < (l0_2.length : Int)
          rotate_left
          · rw [if_neg c14] at H
            have c14b0 : decide (x3_2 < (l0_2.length : Int)) = false := decide_eq_false c14
            clear c14
            obtain rfl := Option.some.inj H
            have hz28 := cells8 BK101.out
            go_wp2
            repeat (go_quiet (fail); try go_wp2)
            go_ret
            exact ⟨qq2, qS1 GE101 HB.out⟩
          rw [if_pos c14] at H
          have c14b0 : decide (x3_2 < (l0_2.length : Int)) = true := decide_eq_true c14
          clear c14
          by_cases c15 : 0 ≤ x3_2
          rotate_left
          · rw [if_neg c15] at H
            exact absurd H (by simp)
          rw [if_pos c15] at H
          have c15b0 : decide (0 ≤ x3_2) = true := decide_eq_true c15
          clear c15
          by_cases c16 : (rd l0_2 x3_2) < 1
          · rw [if_pos c16] at H
            have c16b0 : decide ((rd l0_2 x3_2) < 1) = true := decide_eq_true c16
            clear c16
            obtain rfl := Option.some.inj H
            have hz17 := cells8 BK101.out
            have p102 : 0 ≤ (x3_2 : Int) := of_decide_eq_true qq0
            have q102 : x3_2 < (l0_2.length : Int) := of_decide_eq_true qq0
            obtain ⟨ad102, e102, hx102_0⟩ := Kd.at_int HR0_2.out x3_2 p102 q102
            cases e102
            replace hx102_0 := (HB.out.cell (World.block_lt_of_cell? w _ hx102_0)).trans hx102_0
            replace p102 := eq_true p102
            replace q102 := eq_true q102
            go_wp2
            repeat (go_quiet (fail); try go_wp2)
            go_ret
            exact ⟨qq2, qS1 GE101 HB.out⟩
          rw [if_neg c16] at H
          have c16b0 : decide ((rd l0_2 x3_2) < 1) = false := decide_eq_false c16
          clear c16
          by_cases c18 : (rd l0_2 x3_2) > 9
          · rw [if_pos c18] at H
            have c18b0 : decide (9 < (rd l0_2 x3_2)) = true := decide_eq_true c18
            clear c18
            obtain rfl := Option.some.inj H
            have hz19 := cells8 BK101.out
            have p102 : 0 ≤ (x3_2 : Int) := of_decide_eq_true qq0
            have q102 : x3_2 < (l0_2.length : Int) := of_decide_eq_true qq0
            obtain ⟨ad102, e102, hx102_0⟩ := Kd.at_int HR0_2.out x3_2 p102 q102
            cases e102
            replace hx102_0 := (HB.out.cell (World.block_lt_of_cell? w _ hx102_0)).trans hx102_0
            replace p102 := eq_true p102
            replace q102 := eq_true q102
            have p103 : 0 ≤ (x3_2 : Int) := of_decide_eq_true qq0
            have q103 : x3_2 < (l0_2.length : Int) := of_decide_eq_true qq0
            obtain ⟨ad103, e103, hx103_0⟩ := Kd.at_int HR0_2.out x3_2 p103 q103
            obtain rfl : ad102 = ad103 := (by injection e103)
            replace hx103_0 := (HB.out.cell (World.block_lt_of_cell? w _ hx103_0)).trans hx103_0
            replace p103 := eq_true p103
            replace q103 := eq_true q103
            go_wp2
            repeat (go_quiet (fail); try go_wp2)
            go_ret
            exact ⟨qq2, qS1 GE101 HB.out⟩
          rw [if_neg c18] at H
          have c18b0 : decide (9 < (rd l0_2 x3_2)) = false := decide_eq_false c18
          clear c18
          by_cases c20 : x3_2 > 0
          rotate_left
          · rw [if_neg c20] at H
            have c20b0 : decide (0 < x3_2) = false := decide_eq_false c20
            clear c20
            have H' := Aside0.mk H
            clear H
            have hz27 := cells8 BK101.out
            have p102 : 0 ≤ (x3_2 : Int) := of_decide_eq_true qq0
            have q102 : x3_2 < (l0_2.length : Int) := of_decide_eq_true qq0
            obtain ⟨ad102, e102, hx102_0⟩ := Kd.at_int HR0_2.out x3_2 p102 q102
            cases e102
            replace hx102_0 := (HB.out.cell (World.block_lt_of_cell? w _ hx102_0)).trans hx102_0
            replace p102 := eq_true p102
            replace q102 := eq_true q102
            have p103 : 0 ≤ (x3_2 : Int) := of_decide_eq_true qq0
            have q103 : x3_2 < (l0_2.length : Int) := of_decide_eq_true qq0
            obtain ⟨ad103, e103, hx103_0⟩ := Kd.at_int HR0_2.out x3_2 p103 q103
            obtain rfl : ad102 = ad103 := (by injection e103)
            replace hx103_0 := (HB.out.cell (World.block_lt_of_cell? w _ hx103_0)).trans hx103_0
            replace p103 := eq_true p103
            replace q103 := eq_true q103
            go_wp2
            repeat (go_quiet (fail); try go_wp2)
            go_roundg k2
            case measure => have := HJ1.out; have := HK2.out; omega
            case rel => exact ⟨(wrap64 (x3_2 + 1)), qq3, H', ⟨by have := HJ1.out; have := HK2.out; omega⟩, ⟨bq BK101.out⟩, ⟨qS1 GE101 HB.out⟩⟩
          rw [if_pos c20] at H
          have c20b0 : decide (0 < x3_2) = true := decide_eq_true c20
          clear c20
          obtain ⟨ji21, hji21⟩ : ∃ j_ : Int, (wrap64 (x3_2 - 1)) = j_ := ⟨_, rfl⟩
          replace H : (if 0 ≤ (ji21) then (if (ji21) < (l0_2.length : Int) then (if (rd l0_2 x3_2) ≤ (rd l0_2 (ji21)) then (some false) else (partitaref10_right.l0 k2 (wrap64 (x3_2 + 1)) a0_0 a0_1 l0_2 a0_3 a0_4 a0_5 a0_6 a0_7)) else (none)) else (none)) = some r := by first | (rw [hji21] at H; exact H) | (simp only [hji21] at H ⊢; exact H)
          have hji21w : (IntKind.i64.wrap (x3_2 - 1)) = ji21 := (i64_w _).trans hji21
          by_cases c22 : 0 ≤ (ji21)
          rotate_left
          · rw [if_neg c22] at H
            exact absurd H (by simp)
          rw [if_pos c22] at H
          have c22b0 : decide (0 ≤ (ji21)) = true := decide_eq_true c22
          clear c22
          by_cases c23 : (ji21) < (l0_2.length : Int)
          rotate_left
          · rw [if_neg c23] at H
            exact absurd H (by simp)
          rw [if_pos c23] at H
          have c23b0 : decide ((ji21) < (l0_2.length : Int)) = true := decide_eq_true c23
          clear c23
          by_cases c24 : (rd l0_2 x3_2) ≤ (rd l0_2 (ji21))
          · rw [if_pos c24] at H
            have c24b0 : decide ((rd l0_2 x3_2) ≤ (rd l0_2 (ji21))) = true := decide_eq_true c24
            clear c24
            obtain rfl := Option.some.inj H
            have hz25 := cells8 BK101.out
            have p102 : 0 ≤ (x3_2 : Int) := of_decide_eq_true qq0
            have q102 : x3_2 < (l0_2.length : Int) := of_decide_eq_true qq0
            obtain ⟨ad102, e102, hx102_0⟩ := Kd.at_int HR0_2.out x3_2 p102 q102
            cases e102
            replace hx102_0 := (HB.out.cell (World.block_lt_of_cell? w _ hx102_0)).trans hx102_0
            replace p102 := eq_true p102
            replace q102 := eq_true q102
            have p103 : 0 ≤ (x3_2 : Int) := of_decide_eq_true qq0
            have q103 : x3_2 < (l0_2.length : Int) := of_decide_eq_true qq0
            obtain ⟨ad103, e103, hx103_0⟩ := Kd.at_int HR0_2.out x3_2 p103 q103
            obtain rfl : ad102 = ad103 := (by injection e103)
            replace hx103_0 := (HB.out.cell (World.block_lt_of_cell? w _ hx103_0)).trans hx103_0
            replace p103 := eq_true p103
            replace q103 := eq_true q103
            have p104 : 0 ≤ (x3_2 : Int) := of_decide_eq_true qq0
            have q104 : x3_2 < (l0_2.length : Int) := of_decide_eq_true qq0
            obtain ⟨ad104, e104, hx104_0⟩ := Kd.at_int HR0_2.out x3_2 p104 q104
            obtain rfl : ad102 = ad104 := (by injection e104)
            replace hx104_0 := (HB.out.cell (World.block_lt_of_cell? w _ hx104_0)).trans hx104_0
            replace p104 := eq_true p104
            replace q104 := eq_true q104
            have p105 : 0 ≤ ((ji21) : Int) := of_decide_eq_true qq0
            have q105 : (ji21) < (l0_2.length : Int) := of_decide_eq_true qq0
            obtain ⟨ad105, e105, hx105_0⟩ := Kd.at_int HR0_2.out (ji21) p105 q105
            obtain rfl : ad102 = ad105 := (by injection e105)
            replace hx105_0 := (HB.out.cell (World.block_lt_of_cell? w _ hx105_0)).trans hx105_0
            replace p105 := eq_true p105
            replace q105 := eq_true q105
            go_wp2
            repeat (go_quiet (fail); try go_wp2)
            go_ret
            exact ⟨by first | rfl | (simp [errW_none, errW_some] <;> rfl) | (simp only [← hji21]; first | rfl | (simp [errW_none, errW_some] <;> rfl)) | (simp [*, errW_none, errW_some] <;> rfl), qS1 GE101 HB.out⟩
          rw [if_neg c24] at H
          have c24b0 : decide ((rd l0_2 x3_2) ≤ (rd l0_2 (ji21))) = false := decide_eq_false c24
          clear c24
          have H' := Aside0.mk H
          clear H
          have hz26 := cells8 BK101.out
          have p102 : 0 ≤ (x3_2 : Int) := of_decide_eq_true qq0
          have q102 : x3_2 < (l0_2.length : Int) := of_decide_eq_true qq0
          obtain ⟨ad102, e102, hx102_0⟩ := Kd.at_int HR0_2.out x3_2 p102 q102
          cases e102
          replace hx102_0 := (HB.out.cell (World.block_lt_of_cell? w _ hx102_0)).trans hx102_0
          replace p102 := eq_true p102
          replace q102 := eq_true q102
          have p103 : 0 ≤ (x3_2 : Int) := of_decide_eq_true qq0
          have q103 : x3_2 < (l0_2.length : Int) := of_decide_eq_true qq0
          obtain ⟨ad103, e103, hx103_0⟩ := Kd.at_int HR0_2.out x3_2 p103 q103
          obtain rfl : ad102 = ad103 := (by injection e103)
          replace hx103_0 := (HB.out.cell (World.block_lt_of_cell? w _ hx103_0)).trans hx103_0
          replace p103 := eq_true p103
          replace q103 := eq_true q103
          have p104 : 0 ≤ (x3_2 : Int) := of_decide_eq_true qq0
          have q104 : x3_2 < (l0_2.length : Int) := of_decide_eq_true qq0
          obtain ⟨ad104, e104, hx104_0⟩ := Kd.at_int HR0_2.out x3_2 p104 q104
          obtain rfl : ad102 = ad104 := (by injection e104)
          replace hx104_0 := (HB.out.cell (World.block_lt_of_cell? w _ hx104_0)).trans hx104_0
          replace p104 := eq_true p104
          replace q104 := eq_true q104
          have p105 : 0 ≤ ((ji21) : Int) := of_decide_eq_true qq0
          have q105 : (ji21) < (l0_2.length : Int) := of_decide_eq_true qq0
          obtain ⟨ad105, e105, hx105_0⟩ := Kd.at_int HR0_2.out (ji21) p105 q105
          obtain rfl : ad102 = ad105 := (by injection e105)
          replace hx105_0 := (HB.out.cell (World.block_lt_of_cell? w _ hx105_0)).trans hx105_0
          replace p105 := eq_true p105
          replace q105 := eq_true q105
          go_wp2
          repeat (go_quiet (fail); try go_wp2)
          go_roundg k2
          case measure => have := HJ1.out; have := HK2.out; omega
          case rel => exact ⟨(wrap64 (x3_2 + 1)), qq3, H', ⟨by have := HJ1.out; have := HK2.out; omega⟩, ⟨bq BK101.out⟩, ⟨qS1 GE101 HB.out⟩⟩
end Go.Proofs.Ytendmmagjjhfnaa.M
