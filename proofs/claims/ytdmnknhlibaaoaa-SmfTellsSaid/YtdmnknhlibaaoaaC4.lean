/- Functions and contracts printed by a program of this session (wip/tools), and texts by hand: Print, Parse, and the plain answers (part 4). -/
import Derived.Test.YtdmnknhlibaaoaaCW
import Derived.Test.YtdmnknhlibaaoaaC1
import Derived.Test.YtdmnknhlibaaoaaC3
namespace Go.Proofs.Ytdmnknhlibaaoaa.M
open Go.RowKit Go.Proofs.YtdmnknhlibaaoaaW.PrintWords Go.Proofs.YtdmnknhlibaaoaaW.PrintLast Go.Proofs.YtdmnknhlibaaoaaW.PrintMore
attribute [local go_sem] cH bH eH jH fH nH qH oH
set_option linter.unusedVariables false
set_option linter.unusedSimpArgs false
mutual
def B7.j0 : Nat → Int → Bool → Option (ByteArray × Int)
 | 0, _, _ => none
 | k + 1, x0, mK => if mK = true then (some ((⟨#[]⟩ : ByteArray), 150)) else (B7.l0 k x0 (([(Int.tmod x0 128) % 256] : List Int)))
def B7.l0 : Nat → Int → List Int → Option (ByteArray × Int)
 | 0, _, _ => none
 | k + 1, x0, x4 => if x0 ≥ 128 then ((some (([(wrap64 (128 + (Int.tmod (wrap64 (Int.tdiv x0 128)) 128))) % 256] : List Int) : List Int)).bind fun NH => (if NH.length + x4.length < 140737488355328 then (B7.l0 k (wrap64 (Int.tdiv x0 128)) (NH ++ x4)) else (none))) else (some (strOfNums x4, 0))
end
def B7.f (k : Nat) (a0 : Int) : Option (ByteArray × Int) := if a0 < 0 then (B7.j0 k a0 true) else (B7.j0 k a0 (decide (a0 > 268435455)))
theorem B7.mono_l : ∀ k, (∀ y0 y1, F0 (B7.j0 k y0 y1) (B7.j0 (k + 1) y0 y1)) ∧ (∀ y0 y1, F0 (B7.l0 k y0 y1) (B7.l0 (k + 1) y0 y1))
 | 0 => ⟨fun _ _ r h => by simp [B7.j0] at h, fun _ _ r h => by simp [B7.l0] at h⟩
 | k + 1 => by
  obtain ⟨O2, Z5⟩ := B7.mono_l k
  refine ⟨?_, ?_⟩
  ·intro y0 y1
   unfold B7.j0
   repeat' with_reducible first
    | apply Z5
    | apply F0.refl
    | refine F0.ite ?_ ?_
  ·intro y0 y1
   unfold B7.l0
   repeat' with_reducible first
    | apply Z5
    | apply F0.refl
    | refine F0.ite ?_ ?_
    | refine F0.bind ?_ (fun _ => ?_)
theorem B7.mono : ∀ a0 k, F0 (B7.f k a0) (B7.f (k + 1) a0) := by
 intro a0 k
 obtain ⟨O2, Z5⟩ := B7.mono_l k
 unfold B7.f
 repeat' with_reducible first
  | apply O2
  | refine F0.ite ?_ ?_
set_option maxHeartbeats 8000000 in
set_option maxRecDepth 100000 in
theorem B7.calls (k : Nat) (a0 : Int) (r1 : ByteArray) (r2 : Int) (w : World) (h : B7.f k a0 = some (r1, r2)) :
 Calls Try.prog 63 #[.int .i64 a0] w fun e w' => e = .returned (.tuple #[.string r1, .int .i64 r2]) ∧ Below w.heap.size w w' := by
 have I := am (Below.refl w.heap.size w); have H := h; unfold B7.f at H; clear h; have PC := am H; clear H; go_enter Try.func63, Try.ntmps63; go_upto_region 1 with (fail)
 go_cut [10] (fun v10 wc => ∃ (kq : Nat) (IX : Bool), v10 = .bool IX ∧ Aside0 (B7.j0 kq a0 IX = some (r1, r2)) ∧ Aside0 (kq ≤ k) ∧ Aside0 (Below w.heap.size w wc))
 case first =>
  have H := PC.out; clear PC; by_cases c3 : a0 < 0
  ·rw [if_pos c3] at H; have S8 : decide (a0 < 0) = true := decide_eq_true c3; clear c3; have H' := am H; clear H; go_wp2; go_meet
   case rel => exact ⟨_, (true), (by rfl), H', ⟨by omega⟩, ⟨qB I.out⟩⟩
  rw [if_neg c3] at H; have S8 : decide (a0 < 0) = false := decide_eq_false c3; clear c3; have H' := am H; clear H; go_wp2; go_meet
  case rel => exact ⟨_, (decide (a0 > 268435455)), (by rfl), H', ⟨by omega⟩, ⟨qB I.out⟩⟩
 case rest =>
  clear PC; obtain ⟨kq, IX, rfl, HA, UB, I⟩ := hcut; cases kq with
  | zero => exact absurd HA.out (by simp [B7.j0])
  | succ xC =>
   have H := HA.out; clear HA; simp only [B7.j0] at H; by_cases c4 : IX = true
   ·subst c4; have H1 : (some ((⟨#[]⟩ : ByteArray), 150)) = some (r1, r2) := by rw [if_pos rfl] at H; exact H
    clear H; have H := H1; clear H1; simp only [Option.some.injEq, Prod.mk.injEq] at H; obtain ⟨rfl, rfl⟩ := H; go_wp2; go_ret2; exact ⟨by rfl, qB I.out⟩
   replace c4 := Bool.eq_false_iff.mpr c4; subst c4; have H1 : (B7.l0 xC a0 (([(Int.tmod a0 128) % 256] : List Int))) = some (r1, r2) := by rw [if_neg (show ¬ (false = true) by decide)] at H; exact H
   clear H; have H := H1; clear H1; obtain ⟨qT, fL⟩ : ∃ y_ : List Int, y_ = (([(Int.tmod a0 128) % 256] : List Int)) := ⟨_, rfl⟩
   replace H : (B7.l0 xC a0 qT) = some (r1, r2) := by (rw [fL]; with_reducible exact H)
   have Ve := am fL; clear fL; have H' := am H; clear H; go_wp2_with (((with_reducible refine P2 (N := 14) rfl ?_); refine Kd.PF (Kd.int .u8) _ 5 ?hg (N := 14) ?hd (xs := ([(Int.tmod a0 128) % 256] : List Int)) (inner := [.int .u8 ((Int.tmod a0 128) % 256)]) (ok := fun _ => True) (okp := fun _ => True) ?hr ?hp (fun _ X => X) trivial (Below.refl _ _) (Nat.le_refl _) (by simp) ?_; (case hd => rfl); (case hg => rfl); (case hr => exact Z2); (case hp => exact (J2.one (show Kd.M (Kd.int .u8) _ _ _ ((Int.tmod a0 128) % 256) [.int .u8 ((Int.tmod a0 128) % 256)] from rfl) (J2.none _ _))); intro bo4 w5 Ki G i3 e7; clear i3 e7; (rw [← Ve.out] at Ki); have Yc := am (Kd.j9 Ki (S3 (qB I.out))); replace I := am (T0 (qB I.out) G); clear G Ki)); go_loopg [0, 4] xC (fun kq v0 v4 w' => ∃ (rG : Int) (tK : List Int), v0 = .int .i64 rG ∧ Aside0 (B7.l0 kq rG tK = some (r1, r2)) ∧ Aside0 (kq ≤ xC) ∧ Aside0 (Kd.R (Kd.int .u8) 5 w' w.heap.size (fun _ => True) v4 tK) ∧ Aside0 (Below w.heap.size w w'))
   case atStart => exact ⟨(a0), (qT), (by rfl), H', ⟨Nat.le_refl _⟩, ⟨qR Yc.out⟩, ⟨qB I.out⟩⟩
   case round =>
    clear H'; obtain ⟨rG, tK, rfl, HA, TA, I5, I⟩ := hrel; cases gk with
    | zero => exact absurd HA.out (by simp [B7.l0])
    | succ k2 =>
     have H := HA.out; clear HA; simp only [B7.l0] at H; by_cases c7 : rG ≥ 128; rotate_left
     ·rw [if_neg c7] at H; have lC : decide (128 ≤ rG) = false := decide_eq_false c7; clear c7; simp only [Option.some.injEq, Prod.mk.injEq] at H; obtain ⟨rfl, rfl⟩ := H; have du3 := vL (P := Try.prog) Try.underlying39 Try.underlying5 Try.underlying9 (Kd.yG I5.out); go_wp2; go_ret2; exact ⟨by rfl, qB I.out⟩
     rw [if_pos c7] at H; have lC : decide (128 ≤ rG) = true := decide_eq_true c7; clear c7; obtain ⟨NH, GO⟩ : ∃ y_ : List Int, y_ = (([(wrap64 (128 + (Int.tmod (wrap64 (Int.tdiv rG 128)) 128))) % 256] : List Int)) := ⟨_, rfl⟩
     replace H : (if NH.length + tK.length < 140737488355328 then (B7.l0 k2 (wrap64 (Int.tdiv rG 128)) (NH ++ tK)) else (none)) = some (r1, r2) := by (have S6 := (Option.bind_some _ _).symm.trans H; rw [GO]; with_reducible exact S6)
     have Sa := am GO; clear GO; by_cases c8 : NH.length + tK.length < 140737488355328; rotate_left
     ·rw [if_neg c8] at H; exact absurd H (by simp)
     rw [if_pos c8] at H; have PL := am c8; clear c8; obtain ⟨R3, FF⟩ : ∃ y_ : List Int, y_ = (NH ++ tK) := ⟨_, rfl⟩
     replace H : (B7.l0 k2 (wrap64 (Int.tdiv rG 128)) R3) = some (r1, r2) := by (rw [FF]; with_reducible exact H)
     have MG := am FF; clear FF; have H' := am H; clear H; go_wp2_with (first | ((with_reducible refine P2 (N := 23) rfl ?_); refine Kd.PF (Kd.int .u8) _ 5 ?hg (N := 23) ?hd (xs := ([(wrap64 (128 + (Int.tmod (wrap64 (Int.tdiv rG 128)) 128))) % 256] : List Int)) (inner := [.int .u8 ((wrap64 (128 + (Int.tmod (wrap64 (Int.tdiv rG 128)) 128))) % 256)]) (ok := fun _ => True) (okp := fun _ => True) ?hr ?hp (fun _ X => X) trivial (Below.refl _ _) (Nat.le_refl _) (by simp) ?_; (case hd => rfl); (case hg => rfl); (case hr => exact Z2); (case hp => exact (J2.one (show Kd.M (Kd.int .u8) _ _ _ ((wrap64 (128 + (Int.tmod (wrap64 (Int.tdiv rG 128)) 128))) % 256) [.int .u8 ((wrap64 (128 + (Int.tmod (wrap64 (Int.tdiv rG 128)) 128))) % 256)] from rfl) (J2.none _ _))); intro yN w9 lX G i3 e7; clear i3 e7; (rw [← Sa.out] at lX); have N5 := am (Kd.j9 (Kd.iF lX (Kd.D_ (qR I5.out))) (S3 (qB I.out))); replace I5 := am (Kd.kF (qR I5.out) (Kd.A_ lX) G); replace I := am (T0 (qB I.out) G); clear G lX; obtain ⟨Pc, Ic, Wj⟩ := Kd.Q9 I5.out; subst Wj) | ((with_reducible refine O_ (b := .append) (xs := #[.tmp 23, .tmp 24]) rfl ?_); at_builtin; refine Kd.jJ (Kd.int .u8) (w0 := w) w.heap.size rfl (.tmp 23) (.tmp 24) 39 5 (.int .u8 0) 1 rfl Try.underlying39 OA rfl (by decide) (by omega) yN NH tK _ _ _ (fun k_ => some k_ ≠ (.slice Pc tK.length Ic : Value).ownBlock) (fun _ => False) rfl rfl ?aO ?aR (fun _ _ h => h) (fun _ h => h.elim) ?aF ?aB ?aS ?aL ?_; (case aR => repeat (exact (Kd.n_ I5.out).2.2)); (case aB => exact (qB I.out)); (case aF => exact (fun k_ X => Kd.I7 (Kd.D_ (qR I5.out)) k_ X)); (case aO => exact (by (with_reducible repeat (first | apply Kd.GE | apply Kd.dE | apply Kd.EE)); exact Kd.Y5 N5.out (fun _ X => X.2))); (case aS => exact (S3 (qB I.out))); (case aL => have := PL.out; omega); intro kG pM ho G hg O1; rw [← MG.out] at ho; replace I5 := am (Kd.QB (ok := (fun _ => True)) (qR I5.out) hg O1); replace I := am (G); have r_ := am (ho); clear N5; clear ho G hg O1)); go_roundg k2
     case measure => have := UB.out; have := TA.out; omega
     case rel => exact ⟨(wrap64 (Int.tdiv rG 128)), (R3), (by rfl), H', ⟨by have := UB.out; have := TA.out; omega⟩, ⟨qR (Kd.Y5 r_.out (fun _ X => trivial))⟩, ⟨qB I.out⟩⟩
def CE.f (I0 : Int) (C0 : Int) (i1 : Int) (X0 : Int) (N1 : Int) (Z0 : ByteArray) : Option (Int) := if C0 = 16 then (some 255) else (if C0 = 15 then (some X0) else (some (wrap64 ((wrap64 (16 * C0)) + i1))))
set_option maxHeartbeats 8000000 in
set_option maxRecDepth 100000 in
theorem CE.calls (I0 : Int) (C0 : Int) (i1 : Int) (X0 : Int) (N1 : Int) (Z0 : ByteArray) (r : Int) (w : World) (h : CE.f I0 C0 i1 X0 N1 Z0 = some r) :
 Calls Try.prog 64 #[.agg #[.int .i64 I0, .int .i64 C0, .int .i64 i1, .int .i64 X0, .int .i64 N1, .string Z0]] w fun e w' => e = .returned (.int .i64 r) ∧ Below w.heap.size w w' := by
 have WB := Try.underlying28; have I := am (Below.refl w.heap.size w); have H := h; unfold CE.f at H; clear h; by_cases c2 : C0 = 16
 ·rw [if_pos c2] at H; have G9 : (C0 == 16) = true := beq_iff_eq.mpr c2; have oE : (C0 != 16) = false := bne_eq_false_iff_eq.mpr c2; clear c2; obtain rfl := Option.some.inj H; go_enter Try.func64, Try.ntmps64; go_wp2_with (((with_reducible refine P2 (N := 1) rfl ?_); refine D3 ?hg (N := 1) ?hd (cs := #[.int .i64 I0, .int .i64 C0, .int .i64 i1, .int .i64 X0, .int .i64 N1, .string Z0]) (t := 28) ?hr ?_; (case hd => rfl); (case hg => rfl); (case hr => exact Y9); intro n0 hg w3 M0 G; have Y := am (M0); have W6 := am ((U2 : w.heap.size ≤ n0)); have H0 := am ((U2 : w.heap.size ≤ n0)); replace I := am (T0 (qB I.out) G); clear G M0 hg; obtain ⟨aT, yT, vS, ad7, bt4, az6, BU, GS, RT, Lp, bm8, ch5⟩ := S1 Y.out)); go_ret; exact ⟨L_, S0 H0 I.out⟩
 rw [if_neg c2] at H; have G9 : (C0 == 16) = false := beq_eq_false_iff_ne.mpr c2; have oE : (C0 != 16) = true := bne_iff_ne.mpr c2; by_cases c5 : C0 = 15; rotate_left
 ·rw [if_neg c5] at H; have qC : (C0 == 15) = false := beq_eq_false_iff_ne.mpr c5; have DF : (C0 != 15) = true := bne_iff_ne.mpr c5; obtain rfl := Option.some.inj H; go_enter Try.func64, Try.ntmps64; go_wp2_with (((with_reducible refine P2 (N := 1) rfl ?_); refine D3 ?hg (N := 1) ?hd (cs := #[.int .i64 I0, .int .i64 C0, .int .i64 i1, .int .i64 X0, .int .i64 N1, .string Z0]) (t := 28) ?hr ?_; (case hd => rfl); (case hg => rfl); (case hr => exact Y9); intro n0 hg w8 M0 G; have Y := am (M0); have W6 := am ((U2 : w.heap.size ≤ n0)); have H0 := am ((U2 : w.heap.size ≤ n0)); replace I := am (T0 (qB I.out) G); clear G M0 hg; obtain ⟨mJ, IJ, CJ, lW, Xi, Cg, GJ, zJ, DJ, hY, Pg, ZZ⟩ := S1 Y.out)); go_ret; exact ⟨L_, S0 H0 I.out⟩
 rw [if_pos c5] at H; have qC : (C0 == 15) = true := beq_iff_eq.mpr c5; have DF : (C0 != 15) = false := bne_eq_false_iff_eq.mpr c5; clear c5; obtain rfl := Option.some.inj H; go_enter Try.func64, Try.ntmps64; go_wp2_with (((with_reducible refine P2 (N := 1) rfl ?_); refine D3 ?hg (N := 1) ?hd (cs := #[.int .i64 I0, .int .i64 C0, .int .i64 i1, .int .i64 X0, .int .i64 N1, .string Z0]) (t := 28) ?hr ?_; (case hd => rfl); (case hg => rfl); (case hr => exact Y9); intro n0 hg w6 M0 G; have Y := am (M0); have W6 := am ((U2 : w.heap.size ≤ n0)); have H0 := am ((U2 : w.heap.size ≤ n0)); replace I := am (T0 (qB I.out) G); clear G M0 hg; obtain ⟨aK, VK, pK, oM, eX, dX, kL, QK, YK, bM, rX, tX⟩ := S1 Y.out)); go_ret; exact ⟨L_, S0 H0 I.out⟩
mutual
def G3.l0 : Nat → List (N0) → ByteArray → Int → Option (ByteArray × Int)
 | 0, _, _, _ => none
 | k + 1, x0, x4, x5 => if x5 < (x0.length : Int) then (if 0 ≤ x5 then ((S5.f k ((U x0 x5).f0) ((U x0 x5).f1) ((U x0 x5).f2) ((U x0 x5).f3) ((U x0 x5).f4) ((U x0 x5).f5)).bind fun t103 => (if t103 = true then ((B7.f k ((U x0 x5).f0)).bind fun t_ => ((B7.f k (((U x0 x5).f5).size : Int)).bind fun nB => (if x4.size + t_.1.size ≤ 9223372036854775807 then (if ((U x0 x5).f1) ≥ 15 then (G3.j1 k x0 (x4 ++ t_.1) x5 nB.1 true ((U x0 x5).f0) ((U x0 x5).f1) ((U x0 x5).f2) ((U x0 x5).f3) ((U x0 x5).f4) ((U x0 x5).f5)) else (if x5 = 0 then (G3.j1 k x0 (x4 ++ t_.1) x5 nB.1 true ((U x0 x5).f0) ((U x0 x5).f1) ((U x0 x5).f2) ((U x0 x5).f3) ((U x0 x5).f4) ((U x0 x5).f5)) else (if 0 ≤ (wrap64 (x5 - 1)) then (if (wrap64 (x5 - 1)) < (x0.length : Int) then (if ((U x0 (wrap64 (x5 - 1))).f1) ≥ 15 then (G3.j1 k x0 (x4 ++ t_.1) x5 nB.1 true ((U x0 x5).f0) ((U x0 x5).f1) ((U x0 x5).f2) ((U x0 x5).f3) ((U x0 x5).f4) ((U x0 x5).f5)) else ((CE.f ((U x0 (wrap64 (x5 - 1))).f0) ((U x0 (wrap64 (x5 - 1))).f1) ((U x0 (wrap64 (x5 - 1))).f2) ((U x0 (wrap64 (x5 - 1))).f3) ((U x0 (wrap64 (x5 - 1))).f4) ((U x0 (wrap64 (x5 - 1))).f5)).bind fun t110 => ((CE.f ((U x0 x5).f0) ((U x0 x5).f1) ((U x0 x5).f2) ((U x0 x5).f3) ((U x0 x5).f4) ((U x0 x5).f5)).bind fun t111 => (G3.j1 k x0 (x4 ++ t_.1) x5 nB.1 (t110 != t111) ((U x0 x5).f0) ((U x0 x5).f1) ((U x0 x5).f2) ((U x0 x5).f3) ((U x0 x5).f4) ((U x0 x5).f5))))) else (none)) else (none)))) else (none)))) else (some ((⟨#[]⟩ : ByteArray), 151)))) else (none)) else (some (x4, 0))
def G3.j1 : Nat → List (N0) → ByteArray → Int → ByteArray → Bool → Int → Int → Int → Int → Int → ByteArray → Option (ByteArray × Int)
 | 0, _, _, _, _, _, _, _, _, _, _, _ => none
 | k + 1, x0, x4, x5, x9, x66, iG, RD, VB, NL, CM, jK => if x66 = true then ((CE.f iG RD VB NL CM jK).bind fun t112 => ((some (([(t112) % 256] : List Int) : List Int)).bind fun eA => (if x4.size + (strOfNums eA).size ≤ 9223372036854775807 then (G3.j2 k x0 (x4 ++ (strOfNums eA)) x5 x9 iG RD VB NL CM jK) else (none)))) else (G3.j2 k x0 x4 x5 x9 iG RD VB NL CM jK)
def G3.j2 : Nat → List (N0) → ByteArray → Int → ByteArray → Int → Int → Int → Int → Int → ByteArray → Option (ByteArray × Int)
 | 0, _, _, _, _, _, _, _, _, _, _ => none
 | k + 1, x0, x4, x5, x9, iG, RD, VB, NL, CM, jK => if RD = 15 then (G3.j3 k x0 x4 x5 x9 iG RD VB NL CM jK) else ((some (([(NL) % 256] : List Int) : List Int)).bind fun DK => (if x4.size + (strOfNums DK).size ≤ 9223372036854775807 then (G3.j3 k x0 (x4 ++ (strOfNums DK)) x5 x9 iG RD VB NL CM jK) else (none)))
def G3.j3 : Nat → List (N0) → ByteArray → Int → ByteArray → Int → Int → Int → Int → Int → ByteArray → Option (ByteArray × Int)
 | 0, _, _, _, _, _, _, _, _, _, _ => none
 | k + 1, x0, x4, x5, x9, iG, RD, VB, NL, CM, jK => if RD ≥ 15 then (if x4.size + x9.size ≤ 9223372036854775807 then (if (x4 ++ x9).size + jK.size ≤ 9223372036854775807 then (G3.l0 k x0 ((x4 ++ x9) ++ jK) (wrap64 (x5 + 1))) else (none)) else (none)) else (if RD = 12 then (G3.l0 k x0 x4 (wrap64 (x5 + 1))) else (if RD = 13 then (G3.l0 k x0 x4 (wrap64 (x5 + 1))) else ((some (([(CM) % 256] : List Int) : List Int)).bind fun gA => (if x4.size + (strOfNums gA).size ≤ 9223372036854775807 then (G3.l0 k x0 (x4 ++ (strOfNums gA)) (wrap64 (x5 + 1))) else (none)))))
end
def G3.f (k : Nat) (l0 : List (N0)) : Option (ByteArray × Int) := G3.l0 k l0 (⟨#[]⟩ : ByteArray) 0
theorem G3.mono_l : ∀ k, (∀ y0 y1 y2, F0 (G3.l0 k y0 y1 y2) (G3.l0 (k + 1) y0 y1 y2)) ∧ (∀ y0 y1 y2 y3 y4 y5 y6 y7 y8 y9 EO, F0 (G3.j1 k y0 y1 y2 y3 y4 y5 y6 y7 y8 y9 EO) (G3.j1 (k + 1) y0 y1 y2 y3 y4 y5 y6 y7 y8 y9 EO)) ∧ (∀ y0 y1 y2 y3 y4 y5 y6 y7 y8 y9, F0 (G3.j2 k y0 y1 y2 y3 y4 y5 y6 y7 y8 y9) (G3.j2 (k + 1) y0 y1 y2 y3 y4 y5 y6 y7 y8 y9)) ∧ (∀ y0 y1 y2 y3 y4 y5 y6 y7 y8 y9, F0 (G3.j3 k y0 y1 y2 y3 y4 y5 y6 y7 y8 y9) (G3.j3 (k + 1) y0 y1 y2 y3 y4 y5 y6 y7 y8 y9))
 | 0 => ⟨fun _ _ _ r h => by simp [G3.l0] at h, fun _ _ _ _ _ _ _ _ _ _ _ r h => by simp [G3.j1] at h, fun _ _ _ _ _ _ _ _ _ _ r h => by simp [G3.j2] at h, fun _ _ _ _ _ _ _ _ _ _ r h => by simp [G3.j3] at h⟩
 | k + 1 => by
  obtain ⟨O2, Z5, rC, kK⟩ := G3.mono_l k
  refine ⟨?_, ?_, ?_, ?_⟩
  ·intro y0 y1 y2
   unfold G3.l0
   repeat' with_reducible first
    | apply Z5
    | apply S5.mono
    | apply B7.mono
    | apply F0.refl
    | refine F0.ite ?_ ?_
    | refine F0.bind ?_ (fun _ => ?_)
  ·intro y0 y1 y2 y3 y4 y5 y6 y7 y8 y9 EO
   unfold G3.j1
   repeat' with_reducible first
    | apply rC
    | apply F0.refl
    | refine F0.ite ?_ ?_
    | refine F0.bind ?_ (fun _ => ?_)
  ·intro y0 y1 y2 y3 y4 y5 y6 y7 y8 y9
   unfold G3.j2
   repeat' with_reducible first
    | apply kK
    | apply F0.refl
    | refine F0.ite ?_ ?_
    | refine F0.bind ?_ (fun _ => ?_)
  ·intro y0 y1 y2 y3 y4 y5 y6 y7 y8 y9
   unfold G3.j3
   repeat' with_reducible first
    | apply O2
    | apply F0.refl
    | refine F0.ite ?_ ?_
    | refine F0.bind ?_ (fun _ => ?_)
theorem G3.mono : ∀ a0 k, F0 (G3.f k a0) (G3.f (k + 1) a0) := by
 intro a0 k
 obtain ⟨O2, Z5, rC, kK⟩ := G3.mono_l k
 unfold G3.f
 repeat' with_reducible first
  | apply O2
def G3.T11 : Bool × List (List Nat × List Nat) := (true, [([], []), ([0], [0]), ([1], [1]), ([2], [2]), ([3], [3]), ([4, 3], [3, 4]), ([3, 5], [3, 5]), ([6, 3], [6]), ([7], [7]), ([7], [7]), ([9, 7], [7, 9]), ([8, 10, 7], [7, 8, 10]), ([11, 7], [7, 11]), ([12, 7], [7, 12]), ([13, 7], [7, 13]), ([7, 14], [7, 14]), ([15, 7], [15]), ([16], [16]), ([16], [16]), ([18, 16], [16, 18]), ([17, 19, 16], [16, 17, 19]), ([20, 16], [16, 20]), ([21, 16, 16], [16, 21]), ([16], [16]), ([23, 22, 16], [16, 23]), ([22, 24, 16], [16, 22, 24]), ([16, 25], [16, 25])])
def G3.B11 : List Nat := [0, 1, 3, 7, 15, 31, 63, 127, 255, 255, 767, 2047, 4095, 8191, 16383, 32767, 65535, 131071, 131071, 393215, 1048575, 2097151, 4194303, 131071, 16777215, 33554431, 67108863]
theorem G3.tab11 : BA .any (opsOf Try.f44 11) = G3.T11 := by kernel_rfl
theorem G3.bits11 : fJ G3.T11.2 G3.B11 = true := by kernel_rfl
set_option maxHeartbeats 8000000 in
set_option maxRecDepth 100000 in
theorem G3.calls (k : Nat) (A0 : Option Addr) (c0 : Nat) (l0 : List (N0)) (r1 : ByteArray) (r2 : Int) (w : World) (oB : Kd.C L3 w A0 l0.length l0) (i_ : l0.length ≤ c0) (h : G3.f k l0 = some (r1, r2)) :
 Calls Try.prog 44 #[.slice A0 l0.length c0] w fun e w' => e = .returned (.tuple #[.string r1, .int .i64 r2]) ∧ Below w.heap.size w w' := by
 have WB := Try.underlying28; have J_ := am oB; have FJ := am i_; clear oB i_; have I := am (Below.refl w.heap.size w); have H := h; unfold G3.f at H; clear h; have H' := am H; clear H; go_enter Try.func44, Try.ntmps44; go_wp2; go_loopg [4, 5] k (fun kq v4 v5 w' => ∃ (V0 : ByteArray) (E0 : Int), v4 = .string V0 ∧ v5 = .int .i64 E0 ∧ Aside0 (G3.l0 kq l0 V0 E0 = some (r1, r2)) ∧ Aside0 (kq ≤ k) ∧ Aside0 (Below w.heap.size w w'))
 case atStart => exact ⟨((⟨#[]⟩ : ByteArray)), (0), (by rfl), (by rfl), H', ⟨Nat.le_refl _⟩, ⟨qB I.out⟩⟩
 case round =>
  clear H'; obtain ⟨V0, E0, rfl, rfl, HA, S4, I⟩ := hrel; cases gk with
  | zero => exact absurd HA.out (by simp [G3.l0])
  | succ k1 =>
   have H := HA.out; clear HA; simp only [G3.l0] at H; by_cases c2 : E0 < (l0.length : Int); rotate_left
   ·rw [if_neg c2] at H; have G9 : decide (E0 < (l0.length : Int)) = false := decide_eq_false c2; clear c2; simp only [Option.some.injEq, Prod.mk.injEq] at H; obtain ⟨rfl, rfl⟩ := H; go_wp2; go_ret2; exact ⟨by rfl, qB I.out⟩
   rw [if_pos c2] at H; have G9 : decide (E0 < (l0.length : Int)) = true := decide_eq_true c2; clear c2; by_cases c3 : 0 ≤ E0; rotate_left
   ·rw [if_neg c3] at H; exact absurd H (by simp)
   rw [if_pos c3] at H; have S8 : decide (0 ≤ E0) = true := decide_eq_true c3; clear c3; replace H := L2 H; obtain ⟨t103, mA, H⟩ := H; have A4 := am mA; clear mA; by_cases c5 : t103 = true; rotate_left
   ·replace c5 := Bool.eq_false_iff.mpr c5; subst c5; have H1 : (some ((⟨#[]⟩ : ByteArray), 151)) = some (r1, r2) := by rw [if_neg (show ¬ (false = true) by decide)] at H; exact H
    clear H; have H := H1; clear H1; simp only [Option.some.injEq, Prod.mk.injEq] at H; obtain ⟨rfl, rfl⟩ := H; have N4 : 0 ≤ (E0 : Int) := of_decide_eq_true R1; have M4 : E0 < (l0.length : Int) := of_decide_eq_true R1; obtain ⟨P6, H9, F7, S7, Q7, P7, R7, U7⟩ := jA J_.out E0 N4 M4; cases H9; replace F7 := W0 I.out F7; replace S7 := W0 I.out S7; replace Q7 := W0 I.out Q7; replace P7 := W0 I.out P7; replace R7 := W0 I.out R7; replace U7 := W0 I.out U7; replace N4 := eq_true N4; replace M4 := eq_true M4; go_wp2_with (first | ((with_reducible refine P2 (N := 6) rfl ?_); refine D3 ?hg (N := 6) ?hd (cs := #[.int .i64 0, .int .i64 0, .int .i64 0, .int .i64 0, .int .i64 0, .string (⟨#[]⟩ : ByteArray)]) (t := 28) ?hr ?_; (case hd => rfl); (case hg => rfl); (case hr => exact Z2); intro K0 hg FN M0 G; have o0 := am (M0); have YA := am ((U2 : w.heap.size ≤ K0)); have Q0 := am ((U2 : w.heap.size ≤ K0)); replace I := am (T0 (qB I.out) G); clear G M0 hg; obtain ⟨Fx, Sr, Rw, bf1, cf7, bf8, Dr, Es, Dv, az3, bs0, ce0⟩ := S1 o0.out) | ((with_reducible refine H2 (f := 41) rfl ?_); refine G2 (some 22) rfl rfl Try.func41 (by kernel_rfl) rfl #[.agg #[.int .i64 ((U l0 E0).f0), .int .i64 ((U l0 E0).f1), .int .i64 ((U l0 E0).f2), .int .i64 ((U l0 E0).f3), .int .i64 ((U l0 E0).f4), .string ((U l0 E0).f5)]] rfl F2 ?_; (with_reducible refine (S5.calls k1 ((U l0 E0).f0) ((U l0 E0).f1) ((U l0 E0).f2) ((U l0 E0).f3) ((U l0 E0).f4) ((U l0 E0).f5) false _ A4.out).mono ?_); rintro e w63 ⟨rfl, G⟩; refine ⟨_, rfl, ?_⟩; replace o0 := am (O0 (g := K0) (o := .cells #[.int .i64 ((U l0 E0).f0), .int .i64 ((U l0 E0).f1), .int .i64 ((U l0 E0).f2), .int .i64 ((U l0 E0).f3), .int .i64 ((U l0 E0).f4), .string ((U l0 E0).f5)] 28 (0, 0)) (by refine bq ?_; refine J0 (cs := #[.int .i64 ((U l0 E0).f0), .int .i64 ((U l0 E0).f1), .int .i64 ((U l0 E0).f2), .int .i64 ((U l0 E0).f3), .int .i64 ((U l0 E0).f4), .string (⟨#[]⟩ : ByteArray)]) ?_ 5 _ rfl; refine bq ?_; refine J0 (cs := #[.int .i64 ((U l0 E0).f0), .int .i64 ((U l0 E0).f1), .int .i64 ((U l0 E0).f2), .int .i64 ((U l0 E0).f3), .int .i64 0, .string (⟨#[]⟩ : ByteArray)]) ?_ 4 _ rfl; refine bq ?_; refine J0 (cs := #[.int .i64 ((U l0 E0).f0), .int .i64 ((U l0 E0).f1), .int .i64 ((U l0 E0).f2), .int .i64 0, .int .i64 0, .string (⟨#[]⟩ : ByteArray)]) ?_ 3 _ rfl; refine bq ?_; refine J0 (cs := #[.int .i64 ((U l0 E0).f0), .int .i64 ((U l0 E0).f1), .int .i64 0, .int .i64 0, .int .i64 0, .string (⟨#[]⟩ : ByteArray)]) ?_ 2 _ rfl; refine bq ?_; refine J0 (cs := #[.int .i64 ((U l0 E0).f0), .int .i64 0, .int .i64 0, .int .i64 0, .int .i64 0, .string (⟨#[]⟩ : ByteArray)]) ?_ 1 _ rfl; refine bq ?_; refine J0 (cs := #[.int .i64 0, .int .i64 0, .int .i64 0, .int .i64 0, .int .i64 0, .string (⟨#[]⟩ : ByteArray)]) ?_ 0 _ rfl; exact bq o0.out) G); replace I := am (T0 (S0 Q0 I.out) G); )); go_ret2; exact ⟨by rfl, S0 Q0 I.out⟩
   subst c5; have H1 : ((B7.f k1 ((U l0 E0).f0)).bind fun t_ => ((B7.f k1 (((U l0 E0).f5).size : Int)).bind fun nB => (if V0.size + t_.1.size ≤ 9223372036854775807 then (if ((U l0 E0).f1) ≥ 15 then (G3.j1 k1 l0 (V0 ++ t_.1) E0 nB.1 true ((U l0 E0).f0) ((U l0 E0).f1) ((U l0 E0).f2) ((U l0 E0).f3) ((U l0 E0).f4) ((U l0 E0).f5)) else (if E0 = 0 then (G3.j1 k1 l0 (V0 ++ t_.1) E0 nB.1 true ((U l0 E0).f0) ((U l0 E0).f1) ((U l0 E0).f2) ((U l0 E0).f3) ((U l0 E0).f4) ((U l0 E0).f5)) else (if 0 ≤ (wrap64 (E0 - 1)) then (if (wrap64 (E0 - 1)) < (l0.length : Int) then (if ((U l0 (wrap64 (E0 - 1))).f1) ≥ 15 then (G3.j1 k1 l0 (V0 ++ t_.1) E0 nB.1 true ((U l0 E0).f0) ((U l0 E0).f1) ((U l0 E0).f2) ((U l0 E0).f3) ((U l0 E0).f4) ((U l0 E0).f5)) else ((CE.f ((U l0 (wrap64 (E0 - 1))).f0) ((U l0 (wrap64 (E0 - 1))).f1) ((U l0 (wrap64 (E0 - 1))).f2) ((U l0 (wrap64 (E0 - 1))).f3) ((U l0 (wrap64 (E0 - 1))).f4) ((U l0 (wrap64 (E0 - 1))).f5)).bind fun t110 => ((CE.f ((U l0 E0).f0) ((U l0 E0).f1) ((U l0 E0).f2) ((U l0 E0).f3) ((U l0 E0).f4) ((U l0 E0).f5)).bind fun t111 => (G3.j1 k1 l0 (V0 ++ t_.1) E0 nB.1 (t110 != t111) ((U l0 E0).f0) ((U l0 E0).f1) ((U l0 E0).f2) ((U l0 E0).f3) ((U l0 E0).f4) ((U l0 E0).f5))))) else (none)) else (none)))) else (none)))) = some (r1, r2) := by rw [if_pos rfl] at H; exact H
   clear H; have H := H1; clear H1; replace H := L2 H; obtain ⟨⟨t104, t105⟩, aG, H⟩ := H; have A6 := am aG; clear aG; replace H := L2 H; obtain ⟨⟨t106, t107⟩, nI, H⟩ := H; have A7 := am nI; clear nI; by_cases c8 : V0.size + t104.size ≤ 9223372036854775807; rotate_left
   ·rw [if_neg c8] at H; exact absurd H (by simp)
   rw [if_pos c8] at H; have JG := eq_true c8; have GR : decide (V0.size + t104.size ≤ 9223372036854775807) = true := decide_eq_true c8; try have fo2 : (9223372036854775807 < V0.size + t104.size) = False := eq_false (Nat.not_lt.2 c8)
   have tO := am H; clear H; have N4 : 0 ≤ (E0 : Int) := of_decide_eq_true R1; have M4 : E0 < (l0.length : Int) := of_decide_eq_true R1; obtain ⟨P6, H9, F7, S7, Q7, P7, R7, U7⟩ := jA J_.out E0 N4 M4; cases H9; replace F7 := W0 I.out F7; replace S7 := W0 I.out S7; replace Q7 := W0 I.out Q7; replace P7 := W0 I.out P7; replace R7 := W0 I.out R7; replace U7 := W0 I.out U7; replace N4 := eq_true N4; replace M4 := eq_true M4; go_upto_region 11 with (first | ((with_reducible refine P2 (N := 6) rfl ?_); refine D3 ?hg (N := 6) ?hd (cs := #[.int .i64 0, .int .i64 0, .int .i64 0, .int .i64 0, .int .i64 0, .string (⟨#[]⟩ : ByteArray)]) (t := 28) ?hr ?_; (case hd => rfl); (case hg => rfl); (case hr => exact Z2); intro K0 hg AU M0 G; have o0 := am (M0); have YA := am ((U2 : w.heap.size ≤ K0)); have Q0 := am ((U2 : w.heap.size ≤ K0)); replace I := am (T0 (qB I.out) G); clear G M0 hg; obtain ⟨NU, JU, YU, LW, AX, SW, aU, gT, XR, WW, OV, cY⟩ := S1 o0.out) | ((with_reducible refine H2 (f := 41) rfl ?_); refine G2 (some 22) rfl rfl Try.func41 (by kernel_rfl) rfl #[.agg #[.int .i64 ((U l0 E0).f0), .int .i64 ((U l0 E0).f1), .int .i64 ((U l0 E0).f2), .int .i64 ((U l0 E0).f3), .int .i64 ((U l0 E0).f4), .string ((U l0 E0).f5)]] rfl F2 ?_; (with_reducible refine (S5.calls k1 ((U l0 E0).f0) ((U l0 E0).f1) ((U l0 E0).f2) ((U l0 E0).f3) ((U l0 E0).f4) ((U l0 E0).f5) true _ A4.out).mono ?_); rintro e BH ⟨rfl, G⟩; refine ⟨_, rfl, ?_⟩; replace o0 := am (O0 (g := K0) (o := .cells #[.int .i64 ((U l0 E0).f0), .int .i64 ((U l0 E0).f1), .int .i64 ((U l0 E0).f2), .int .i64 ((U l0 E0).f3), .int .i64 ((U l0 E0).f4), .string ((U l0 E0).f5)] 28 (0, 0)) (by refine bq ?_; refine J0 (cs := #[.int .i64 ((U l0 E0).f0), .int .i64 ((U l0 E0).f1), .int .i64 ((U l0 E0).f2), .int .i64 ((U l0 E0).f3), .int .i64 ((U l0 E0).f4), .string (⟨#[]⟩ : ByteArray)]) ?_ 5 _ rfl; refine bq ?_; refine J0 (cs := #[.int .i64 ((U l0 E0).f0), .int .i64 ((U l0 E0).f1), .int .i64 ((U l0 E0).f2), .int .i64 ((U l0 E0).f3), .int .i64 0, .string (⟨#[]⟩ : ByteArray)]) ?_ 4 _ rfl; refine bq ?_; refine J0 (cs := #[.int .i64 ((U l0 E0).f0), .int .i64 ((U l0 E0).f1), .int .i64 ((U l0 E0).f2), .int .i64 0, .int .i64 0, .string (⟨#[]⟩ : ByteArray)]) ?_ 3 _ rfl; refine bq ?_; refine J0 (cs := #[.int .i64 ((U l0 E0).f0), .int .i64 ((U l0 E0).f1), .int .i64 0, .int .i64 0, .int .i64 0, .string (⟨#[]⟩ : ByteArray)]) ?_ 2 _ rfl; refine bq ?_; refine J0 (cs := #[.int .i64 ((U l0 E0).f0), .int .i64 0, .int .i64 0, .int .i64 0, .int .i64 0, .string (⟨#[]⟩ : ByteArray)]) ?_ 1 _ rfl; refine bq ?_; refine J0 (cs := #[.int .i64 0, .int .i64 0, .int .i64 0, .int .i64 0, .int .i64 0, .string (⟨#[]⟩ : ByteArray)]) ?_ 0 _ rfl; exact bq o0.out) G); replace I := am (T0 (S0 Q0 I.out) G); obtain ⟨NQ, sQ, uQ, Mf, Iy, Qo, IP, ZP, GQ, Uh, ac6, ab1⟩ := S1 o0.out) | ((with_reducible refine H2 (f := 63) rfl ?_); refine G2 (some 27) rfl rfl Try.func63 (by kernel_rfl) rfl #[.int .i64 ((U l0 E0).f0)] rfl F2 ?_; (with_reducible refine (B7.calls k1 ((U l0 E0).f0) t104 t105 _ A6.out).mono ?_); rintro e nA ⟨rfl, G⟩; refine ⟨_, rfl, ?_⟩; replace o0 := am (O0 (bq o0.out) G); replace I := am (T0 (S0 Q0 I.out) G); obtain ⟨gM, BL, yL, kQ, Jp, Lr, MM, UL, vM, pQ, Ju, ac1⟩ := S1 o0.out) | ((with_reducible refine H2 (f := 63) rfl ?_); refine G2 (some 34) rfl rfl Try.func63 (by kernel_rfl) rfl #[.int .i64 (((U l0 E0).f5).size : Int)] rfl F2 ?_; (with_reducible refine (B7.calls k1 (((U l0 E0).f5).size : Int) t106 t107 _ A7.out).mono ?_); rintro e b_ ⟨rfl, G⟩; refine ⟨_, rfl, ?_⟩; replace o0 := am (O0 (bq o0.out) G); replace I := am (T0 (S0 Q0 I.out) G); ))
   (try simp only [Act.put, List.setIfInBounds_toArray, List.set_cons_zero, List.set_cons_succ]); go_cut [66] (fun v66 wc => ∃ (kq : Nat) (dW : Bool), v66 = .bool dW ∧ Aside0 (G3.j1 kq l0 (V0 ++ t104) E0 t106 dW ((U l0 E0).f0) ((U l0 E0).f1) ((U l0 E0).f2) ((U l0 E0).f3) ((U l0 E0).f4) ((U l0 E0).f5) = some (r1, r2)) ∧ Aside0 (kq ≤ k1) ∧ Aside0 (wc.heap[K0]? = some (.cells #[.int .i64 ((U l0 E0).f0), .int .i64 ((U l0 E0).f1), .int .i64 ((U l0 E0).f2), .int .i64 ((U l0 E0).f3), .int .i64 ((U l0 E0).f4), .string ((U l0 E0).f5)] 28 (0, 0))) ∧ Aside0 (Below w.heap.size w wc))
   case first =>
    have H := tO.out; clear tO; by_cases l7 : ((U l0 E0).f1) ≥ 15
    ·rw [if_pos l7] at H; have wH : decide (15 ≤ ((U l0 E0).f1)) = true := decide_eq_true l7; clear l7; have H' := am H; clear H; try go_wp2
     replace o0 := am (M1 o0.out); replace I := am (G6 I.out); refine hH (n := 27) (S := fun w' => w'.cell? ⟨K0, 0, none⟩ = some (.int .i64 ((U l0 E0).f0)) ∧ w'.cell? ⟨K0, 1, none⟩ = some (.int .i64 ((U l0 E0).f1)) ∧ w'.cell? ⟨K0, 2, none⟩ = some (.int .i64 ((U l0 E0).f2)) ∧ w'.cell? ⟨K0, 3, none⟩ = some (.int .i64 ((U l0 E0).f3)) ∧ w'.cell? ⟨K0, 4, none⟩ = some (.int .i64 ((U l0 E0).f4)) ∧ w'.cell? ⟨K0, 5, none⟩ = some (.string ((U l0 E0).f5))) (ds := []) #[false, false, false, false, false, false, false, false, false, false, false, false, false, false, false, false, false, false, false, false, false, false, false, false, false, false, false] (by kernel_rfl) rfl rfl ⟨(G0 o0.out 0).trans rfl, (G0 o0.out 1).trans rfl, (G0 o0.out 2).trans rfl, (G0 o0.out 3).trans rfl, (G0 o0.out 4).trans rfl, (G0 o0.out 5).trans rfl⟩ (fun G1 => ?_); refine PJ G3.tab11 G3.bits11 (fun B2 fA => ?_); generalize b_.drew = IY at o0 I G1 ⊢; refine l2 0 (some 40) (bs 1 27) ?_; refine take_ (i := 1) (N := some 41) (v := ?_) (a' := ?_) (bs 3 27) rfl rfl (XC B2.out fA.out (by kernel_rfl)) (fun _ _ _ h => h) (Or.inl ⟨by rfl, ?_⟩) G1 ?_ ?_; rotate_left
     ·rintro w' ⟨s0, s1, s2, s3, s4, s5⟩; go_simp; with_reducible rfl
     rotate_left
     ·simp only [Act.put, List.setIfInBounds_toArray, List.set_cons_zero, List.set_cons_succ, B3, M3]; rfl
     refine l2 2 (some 42) (bs 7 27) ?_; refine l2 3 (some 43) (bs 15 27) ?_; refine j6 (i := 4) (N := some 44) (v := undef) (a' := ?_) (bs 31 27) rfl rfl (z8 B2.out (by kernel_rfl)) (fun _ _ _ h => h) (Or.inr ⟨by rfl, rfl⟩) ?_ ?_; rotate_left
     ·simp only [Act.put, List.setIfInBounds_toArray, List.set_cons_zero, List.set_cons_succ, B3, M3]; rfl
     refine j6 (i := 5) (N := some 45) (v := undef) (a' := ?_) (bs 63 27) rfl rfl (z8 B2.out (by kernel_rfl)) (fun _ _ _ h => h) (Or.inr ⟨by rfl, rfl⟩) ?_ ?_; rotate_left
     ·simp only [Act.put, List.setIfInBounds_toArray, List.set_cons_zero, List.set_cons_succ, B3, M3]; rfl
     refine l2 6 (some 46) (bs 127 27) ?_; refine l2 7 (some 47) (bs 255 27) ?_; refine j6 (i := 8) (N := some 48) (v := undef) (a' := ?_) (bs 511 27) rfl rfl (z8 B2.out (by kernel_rfl)) (fun _ _ _ h => h) (Or.inr ⟨by rfl, rfl⟩) ?_ ?_; rotate_left
     ·simp only [Act.put, List.setIfInBounds_toArray, List.set_cons_zero, List.set_cons_succ, B3, M3]; rfl
     refine j6 (i := 9) (N := some 49) (v := undef) (a' := ?_) (bs 1023 27) rfl rfl (z8 B2.out (by kernel_rfl)) (fun _ _ _ h => h) (Or.inr ⟨by rfl, rfl⟩) ?_ ?_; rotate_left
     ·simp only [Act.put, List.setIfInBounds_toArray, List.set_cons_zero, List.set_cons_succ, B3, M3]; rfl
     refine j6 (i := 10) (N := some 50) (v := undef) (a' := ?_) (bs 2047 27) rfl rfl (z8 B2.out (by kernel_rfl)) (fun _ _ _ h => h) (Or.inr ⟨by rfl, rfl⟩) ?_ ?_; rotate_left
     ·simp only [Act.put, List.setIfInBounds_toArray, List.set_cons_zero, List.set_cons_succ, B3, M3]; rfl
     refine j6 (i := 11) (N := some 51) (v := undef) (a' := ?_) (bs 4095 27) rfl rfl (z8 B2.out (by kernel_rfl)) (fun _ _ _ h => h) (Or.inr ⟨by rfl, rfl⟩) ?_ ?_; rotate_left
     ·simp only [Act.put, List.setIfInBounds_toArray, List.set_cons_zero, List.set_cons_succ, B3, M3]; rfl
     refine j6 (i := 12) (N := some 52) (v := undef) (a' := ?_) (bs 8191 27) rfl rfl (z8 B2.out (by kernel_rfl)) (fun _ _ _ h => h) (Or.inr ⟨by rfl, rfl⟩) ?_ ?_; rotate_left
     ·simp only [Act.put, List.setIfInBounds_toArray, List.set_cons_zero, List.set_cons_succ, B3, M3]; rfl
     refine j6 (i := 13) (N := some 53) (v := undef) (a' := ?_) (bs 16383 27) rfl rfl (z8 B2.out (by kernel_rfl)) (fun _ _ _ h => h) (Or.inr ⟨by rfl, rfl⟩) ?_ ?_; rotate_left
     ·simp only [Act.put, List.setIfInBounds_toArray, List.set_cons_zero, List.set_cons_succ, B3, M3]; rfl
     refine j6 (i := 14) (N := some 54) (v := undef) (a' := ?_) (bs 32767 27) rfl rfl (z8 B2.out (by kernel_rfl)) (fun _ _ _ h => h) (Or.inr ⟨by rfl, rfl⟩) ?_ ?_; rotate_left
     ·simp only [Act.put, List.setIfInBounds_toArray, List.set_cons_zero, List.set_cons_succ, B3, M3]; rfl
     refine l2 15 (some 55) (bs 65535 27) ?_; refine l2 16 (some 56) (bs 131071 27) ?_; refine j6 (i := 17) (N := some 57) (v := undef) (a' := ?_) (bs 262143 27) rfl rfl (z8 B2.out (by kernel_rfl)) (fun _ _ _ h => h) (Or.inr ⟨by rfl, rfl⟩) ?_ ?_; rotate_left
     ·simp only [Act.put, List.setIfInBounds_toArray, List.set_cons_zero, List.set_cons_succ, B3, M3]; rfl
     refine j6 (i := 18) (N := some 58) (v := undef) (a' := ?_) (bs 524287 27) rfl rfl (z8 B2.out (by kernel_rfl)) (fun _ _ _ h => h) (Or.inr ⟨by rfl, rfl⟩) ?_ ?_; rotate_left
     ·simp only [Act.put, List.setIfInBounds_toArray, List.set_cons_zero, List.set_cons_succ, B3, M3]; rfl
     refine j6 (i := 19) (N := some 59) (v := undef) (a' := ?_) (bs 1048575 27) rfl rfl (z8 B2.out (by kernel_rfl)) (fun _ _ _ h => h) (Or.inr ⟨by rfl, rfl⟩) ?_ ?_; rotate_left
     ·simp only [Act.put, List.setIfInBounds_toArray, List.set_cons_zero, List.set_cons_succ, B3, M3]; rfl
     refine j6 (i := 20) (N := some 60) (v := undef) (a' := ?_) (bs 2097151 27) rfl rfl (z8 B2.out (by kernel_rfl)) (fun _ _ _ h => h) (Or.inr ⟨by rfl, rfl⟩) ?_ ?_; rotate_left
     ·simp only [Act.put, List.setIfInBounds_toArray, List.set_cons_zero, List.set_cons_succ, B3, M3]; rfl
     refine j6 (i := 21) (N := some 61) (v := undef) (a' := ?_) (bs 4194303 27) rfl rfl (z8 B2.out (by kernel_rfl)) (fun _ _ _ h => h) (Or.inr ⟨by rfl, rfl⟩) ?_ ?_; rotate_left
     ·simp only [Act.put, List.setIfInBounds_toArray, List.set_cons_zero, List.set_cons_succ, B3, M3]; rfl
     refine j6 (i := 22) (N := some 62) (v := undef) (a' := ?_) (bs 8388607 27) rfl rfl (z8 B2.out (by kernel_rfl)) (fun _ _ _ h => h) (Or.inr ⟨by rfl, rfl⟩) ?_ ?_; rotate_left
     ·simp only [Act.put, List.setIfInBounds_toArray, List.set_cons_zero, List.set_cons_succ, B3, M3]; rfl
     refine j6 (i := 23) (N := some 63) (v := undef) (a' := ?_) (bs 16777215 27) rfl rfl (z8 B2.out (by kernel_rfl)) (fun _ _ _ h => h) (Or.inr ⟨by rfl, rfl⟩) ?_ ?_; rotate_left
     ·simp only [Act.put, List.setIfInBounds_toArray, List.set_cons_zero, List.set_cons_succ, B3, M3]; rfl
     refine j6 (i := 24) (N := some 64) (v := undef) (a' := ?_) (bs 33554431 27) rfl rfl (z8 B2.out (by kernel_rfl)) (fun _ _ _ h => h) (Or.inr ⟨by rfl, rfl⟩) ?_ ?_; rotate_left
     ·simp only [Act.put, List.setIfInBounds_toArray, List.set_cons_zero, List.set_cons_succ, B3, M3]; rfl
     refine j6 (i := 25) (N := some 65) (v := undef) (a' := ?_) (bs 67108863 27) rfl rfl (z8 B2.out (by kernel_rfl)) (fun _ _ _ h => h) (Or.inr ⟨by rfl, rfl⟩) ?_ ?_; rotate_left
     ·simp only [Act.put, List.setIfInBounds_toArray, List.set_cons_zero, List.set_cons_succ, B3, M3]; rfl
     refine l2 26 (some 66) (bs 134217727 27) ?_; refine gH (XJ B2.out (by kernel_rfl)) ?_; try go_wp2
     go_meet
     case rel => exact ⟨_, (true), (by rfl), H', ⟨C_⟩, ⟨bq o0.out⟩, ⟨S0 Q0 I.out⟩⟩
    rw [if_neg l7] at H; have wH : decide (15 ≤ ((U l0 E0).f1)) = false := decide_eq_false l7; clear l7; by_cases N8 : E0 = 0
    ·rw [if_pos N8] at H; have RL : (E0 == 0) = true := beq_iff_eq.mpr N8; have Cx : (E0 != 0) = false := bne_eq_false_iff_eq.mpr N8; clear N8; have H' := am H; clear H; try go_wp2
     replace o0 := am (M1 o0.out); replace I := am (G6 I.out); refine hH (n := 27) (S := fun w' => w'.cell? ⟨K0, 0, none⟩ = some (.int .i64 ((U l0 E0).f0)) ∧ w'.cell? ⟨K0, 1, none⟩ = some (.int .i64 ((U l0 E0).f1)) ∧ w'.cell? ⟨K0, 2, none⟩ = some (.int .i64 ((U l0 E0).f2)) ∧ w'.cell? ⟨K0, 3, none⟩ = some (.int .i64 ((U l0 E0).f3)) ∧ w'.cell? ⟨K0, 4, none⟩ = some (.int .i64 ((U l0 E0).f4)) ∧ w'.cell? ⟨K0, 5, none⟩ = some (.string ((U l0 E0).f5))) (ds := []) #[false, false, false, false, false, false, false, false, false, false, false, false, false, false, false, false, false, false, false, false, false, false, false, false, false, false, false] (by kernel_rfl) rfl rfl ⟨(G0 o0.out 0).trans rfl, (G0 o0.out 1).trans rfl, (G0 o0.out 2).trans rfl, (G0 o0.out 3).trans rfl, (G0 o0.out 4).trans rfl, (G0 o0.out 5).trans rfl⟩ (fun G1 => ?_); refine PJ G3.tab11 G3.bits11 (fun B2 fA => ?_); generalize b_.drew = E4 at o0 I G1 ⊢; refine l2 0 (some 40) (bs 1 27) ?_; refine take_ (i := 1) (N := some 41) (v := ?_) (a' := ?_) (bs 3 27) rfl rfl (XC B2.out fA.out (by kernel_rfl)) (fun _ _ _ h => h) (Or.inl ⟨by rfl, ?_⟩) G1 ?_ ?_; rotate_left
     ·rintro w' ⟨s0, s1, s2, s3, s4, s5⟩; go_simp; with_reducible rfl
     rotate_left
     ·simp only [Act.put, List.setIfInBounds_toArray, List.set_cons_zero, List.set_cons_succ, B3, M3]; rfl
     refine l2 2 (some 42) (bs 7 27) ?_; refine l2 3 (some 43) (bs 15 27) ?_; refine l2 4 (some 44) (bs 31 27) ?_; refine l2 5 (some 45) (bs 63 27) ?_; refine l2 6 (some 46) (bs 127 27) ?_; refine l2 7 (some 47) (bs 255 27) ?_; refine j6 (i := 8) (N := some 48) (v := undef) (a' := ?_) (bs 511 27) rfl rfl (z8 B2.out (by kernel_rfl)) (fun _ _ _ h => h) (Or.inr ⟨by rfl, rfl⟩) ?_ ?_; rotate_left
     ·simp only [Act.put, List.setIfInBounds_toArray, List.set_cons_zero, List.set_cons_succ, B3, M3]; rfl
     refine j6 (i := 9) (N := some 49) (v := undef) (a' := ?_) (bs 1023 27) rfl rfl (z8 B2.out (by kernel_rfl)) (fun _ _ _ h => h) (Or.inr ⟨by rfl, rfl⟩) ?_ ?_; rotate_left
     ·simp only [Act.put, List.setIfInBounds_toArray, List.set_cons_zero, List.set_cons_succ, B3, M3]; rfl
     refine j6 (i := 10) (N := some 50) (v := undef) (a' := ?_) (bs 2047 27) rfl rfl (z8 B2.out (by kernel_rfl)) (fun _ _ _ h => h) (Or.inr ⟨by rfl, rfl⟩) ?_ ?_; rotate_left
     ·simp only [Act.put, List.setIfInBounds_toArray, List.set_cons_zero, List.set_cons_succ, B3, M3]; rfl
     refine j6 (i := 11) (N := some 51) (v := undef) (a' := ?_) (bs 4095 27) rfl rfl (z8 B2.out (by kernel_rfl)) (fun _ _ _ h => h) (Or.inr ⟨by rfl, rfl⟩) ?_ ?_; rotate_left
     ·simp only [Act.put, List.setIfInBounds_toArray, List.set_cons_zero, List.set_cons_succ, B3, M3]; rfl
     refine j6 (i := 12) (N := some 52) (v := undef) (a' := ?_) (bs 8191 27) rfl rfl (z8 B2.out (by kernel_rfl)) (fun _ _ _ h => h) (Or.inr ⟨by rfl, rfl⟩) ?_ ?_; rotate_left
     ·simp only [Act.put, List.setIfInBounds_toArray, List.set_cons_zero, List.set_cons_succ, B3, M3]; rfl
     refine j6 (i := 13) (N := some 53) (v := undef) (a' := ?_) (bs 16383 27) rfl rfl (z8 B2.out (by kernel_rfl)) (fun _ _ _ h => h) (Or.inr ⟨by rfl, rfl⟩) ?_ ?_; rotate_left
     ·simp only [Act.put, List.setIfInBounds_toArray, List.set_cons_zero, List.set_cons_succ, B3, M3]; rfl
     refine j6 (i := 14) (N := some 54) (v := undef) (a' := ?_) (bs 32767 27) rfl rfl (z8 B2.out (by kernel_rfl)) (fun _ _ _ h => h) (Or.inr ⟨by rfl, rfl⟩) ?_ ?_; rotate_left
     ·simp only [Act.put, List.setIfInBounds_toArray, List.set_cons_zero, List.set_cons_succ, B3, M3]; rfl
     refine l2 15 (some 55) (bs 65535 27) ?_; refine l2 16 (some 56) (bs 131071 27) ?_; refine j6 (i := 17) (N := some 57) (v := undef) (a' := ?_) (bs 262143 27) rfl rfl (z8 B2.out (by kernel_rfl)) (fun _ _ _ h => h) (Or.inr ⟨by rfl, rfl⟩) ?_ ?_; rotate_left
     ·simp only [Act.put, List.setIfInBounds_toArray, List.set_cons_zero, List.set_cons_succ, B3, M3]; rfl
     refine j6 (i := 18) (N := some 58) (v := undef) (a' := ?_) (bs 524287 27) rfl rfl (z8 B2.out (by kernel_rfl)) (fun _ _ _ h => h) (Or.inr ⟨by rfl, rfl⟩) ?_ ?_; rotate_left
     ·simp only [Act.put, List.setIfInBounds_toArray, List.set_cons_zero, List.set_cons_succ, B3, M3]; rfl
     refine j6 (i := 19) (N := some 59) (v := undef) (a' := ?_) (bs 1048575 27) rfl rfl (z8 B2.out (by kernel_rfl)) (fun _ _ _ h => h) (Or.inr ⟨by rfl, rfl⟩) ?_ ?_; rotate_left
     ·simp only [Act.put, List.setIfInBounds_toArray, List.set_cons_zero, List.set_cons_succ, B3, M3]; rfl
     refine j6 (i := 20) (N := some 60) (v := undef) (a' := ?_) (bs 2097151 27) rfl rfl (z8 B2.out (by kernel_rfl)) (fun _ _ _ h => h) (Or.inr ⟨by rfl, rfl⟩) ?_ ?_; rotate_left
     ·simp only [Act.put, List.setIfInBounds_toArray, List.set_cons_zero, List.set_cons_succ, B3, M3]; rfl
     refine j6 (i := 21) (N := some 61) (v := undef) (a' := ?_) (bs 4194303 27) rfl rfl (z8 B2.out (by kernel_rfl)) (fun _ _ _ h => h) (Or.inr ⟨by rfl, rfl⟩) ?_ ?_; rotate_left
     ·simp only [Act.put, List.setIfInBounds_toArray, List.set_cons_zero, List.set_cons_succ, B3, M3]; rfl
     refine j6 (i := 22) (N := some 62) (v := undef) (a' := ?_) (bs 8388607 27) rfl rfl (z8 B2.out (by kernel_rfl)) (fun _ _ _ h => h) (Or.inr ⟨by rfl, rfl⟩) ?_ ?_; rotate_left
     ·simp only [Act.put, List.setIfInBounds_toArray, List.set_cons_zero, List.set_cons_succ, B3, M3]; rfl
     refine j6 (i := 23) (N := some 63) (v := undef) (a' := ?_) (bs 16777215 27) rfl rfl (z8 B2.out (by kernel_rfl)) (fun _ _ _ h => h) (Or.inr ⟨by rfl, rfl⟩) ?_ ?_; rotate_left
     ·simp only [Act.put, List.setIfInBounds_toArray, List.set_cons_zero, List.set_cons_succ, B3, M3]; rfl
     refine j6 (i := 24) (N := some 64) (v := undef) (a' := ?_) (bs 33554431 27) rfl rfl (z8 B2.out (by kernel_rfl)) (fun _ _ _ h => h) (Or.inr ⟨by rfl, rfl⟩) ?_ ?_; rotate_left
     ·simp only [Act.put, List.setIfInBounds_toArray, List.set_cons_zero, List.set_cons_succ, B3, M3]; rfl
     refine j6 (i := 25) (N := some 65) (v := undef) (a' := ?_) (bs 67108863 27) rfl rfl (z8 B2.out (by kernel_rfl)) (fun _ _ _ h => h) (Or.inr ⟨by rfl, rfl⟩) ?_ ?_; rotate_left
     ·simp only [Act.put, List.setIfInBounds_toArray, List.set_cons_zero, List.set_cons_succ, B3, M3]; rfl
     refine l2 26 (some 66) (bs 134217727 27) ?_; refine gH (XJ B2.out (by kernel_rfl)) ?_; try go_wp2
     go_meet
     case rel => exact ⟨_, (true), (by rfl), H', ⟨C_⟩, ⟨bq o0.out⟩, ⟨S0 Q0 I.out⟩⟩
    rw [if_neg N8] at H; have RL : (E0 == 0) = false := beq_eq_false_iff_ne.mpr N8; have Cx : (E0 != 0) = true := bne_iff_ne.mpr N8; obtain ⟨P3, Vs⟩ : ∃ j_ : Int, (wrap64 (E0 - 1)) = j_ := ⟨_, rfl⟩
    replace H : (if 0 ≤ (P3) then (if (P3) < (l0.length : Int) then (if ((U l0 (P3)).f1) ≥ 15 then (G3.j1 k1 l0 (V0 ++ t104) E0 t106 true ((U l0 E0).f0) ((U l0 E0).f1) ((U l0 E0).f2) ((U l0 E0).f3) ((U l0 E0).f4) ((U l0 E0).f5)) else ((CE.f ((U l0 (P3)).f0) ((U l0 (P3)).f1) ((U l0 (P3)).f2) ((U l0 (P3)).f3) ((U l0 (P3)).f4) ((U l0 (P3)).f5)).bind fun t110 => ((CE.f ((U l0 E0).f0) ((U l0 E0).f1) ((U l0 E0).f2) ((U l0 E0).f3) ((U l0 E0).f4) ((U l0 E0).f5)).bind fun t111 => (G3.j1 k1 l0 (V0 ++ t104) E0 t106 (t110 != t111) ((U l0 E0).f0) ((U l0 E0).f1) ((U l0 E0).f2) ((U l0 E0).f3) ((U l0 E0).f4) ((U l0 E0).f5))))) else (none)) else (none)) = some (r1, r2) := by (rw [Vs] at H; exact H)
    have ed6 : (IntKind.i64.wrap (E0 - 1)) = P3 := (B3 _).trans Vs; by_cases P5 : 0 ≤ (P3); rotate_left
    ·rw [if_neg P5] at H; exact absurd H (by simp)
    rw [if_pos P5] at H; have RG : decide (0 ≤ (P3)) = true := decide_eq_true P5; clear P5; by_cases L5 : (P3) < (l0.length : Int); rotate_left
    ·rw [if_neg L5] at H; exact absurd H (by simp)
    rw [if_pos L5] at H; have EF : decide ((P3) < (l0.length : Int)) = true := decide_eq_true L5; clear L5; by_cases b6 : ((U l0 (P3)).f1) ≥ 15
    ·rw [if_pos b6] at H; have SE : decide (15 ≤ ((U l0 (P3)).f1)) = true := decide_eq_true b6; clear b6; have H' := am H; clear H; try go_wp2
     replace o0 := am (M1 o0.out); replace I := am (G6 I.out); have tC : 0 ≤ ((P3) : Int) := of_decide_eq_true R1; have sC : (P3) < (l0.length : Int) := of_decide_eq_true R1; obtain ⟨qK, mI, UC, JH, IH, yH, PH, GH⟩ := jA J_.out (P3) tC sC; have ZR := GH; have wS := PH; have xT := yH; have RS := IH; have XS := JH; have VU := UC; obtain rfl : P6 = qK := (by injection mI)
     replace UC := W0 I.out UC; replace JH := W0 I.out JH; replace IH := W0 I.out IH; replace yH := W0 I.out yH; replace PH := W0 I.out PH; replace GH := W0 I.out GH; replace tC := eq_true tC; replace sC := eq_true sC; refine hH (n := 27) (S := fun w' => w'.cell? ⟨K0, 0, none⟩ = some (.int .i64 ((U l0 E0).f0)) ∧ w'.cell? ⟨K0, 1, none⟩ = some (.int .i64 ((U l0 E0).f1)) ∧ w'.cell? ⟨K0, 2, none⟩ = some (.int .i64 ((U l0 E0).f2)) ∧ w'.cell? ⟨K0, 3, none⟩ = some (.int .i64 ((U l0 E0).f3)) ∧ w'.cell? ⟨K0, 4, none⟩ = some (.int .i64 ((U l0 E0).f4)) ∧ w'.cell? ⟨K0, 5, none⟩ = some (.string ((U l0 E0).f5)) ∧ w'.cell? (P6.add (((P3)).toNat * 6)) = some (.int .i64 ((U l0 (P3)).f0)) ∧ w'.cell? ⟨(P6.add (((P3)).toNat * 6)).block, (P6.add (((P3)).toNat * 6)).off + 1, none⟩ = some (.int .i64 ((U l0 (P3)).f1)) ∧ w'.cell? ⟨(P6.add (((P3)).toNat * 6)).block, (P6.add (((P3)).toNat * 6)).off + 2, none⟩ = some (.int .i64 ((U l0 (P3)).f2)) ∧ w'.cell? ⟨(P6.add (((P3)).toNat * 6)).block, (P6.add (((P3)).toNat * 6)).off + 3, none⟩ = some (.int .i64 ((U l0 (P3)).f3)) ∧ w'.cell? ⟨(P6.add (((P3)).toNat * 6)).block, (P6.add (((P3)).toNat * 6)).off + 4, none⟩ = some (.int .i64 ((U l0 (P3)).f4)) ∧ w'.cell? ⟨(P6.add (((P3)).toNat * 6)).block, (P6.add (((P3)).toNat * 6)).off + 5, none⟩ = some (.string ((U l0 (P3)).f5))) (ds := []) #[false, false, false, false, false, false, false, false, false, false, false, false, false, false, false, false, false, false, false, false, false, false, false, false, false, false, false] (by kernel_rfl) rfl rfl ⟨(G0 o0.out 0).trans rfl, (G0 o0.out 1).trans rfl, (G0 o0.out 2).trans rfl, (G0 o0.out 3).trans rfl, (G0 o0.out 4).trans rfl, (G0 o0.out 5).trans rfl, (W0 I.out VU), (W0 I.out XS), (W0 I.out RS), (W0 I.out xT), (W0 I.out wS), (W0 I.out ZR)⟩ (fun G1 => ?_); refine PJ G3.tab11 G3.bits11 (fun B2 fA => ?_); generalize b_.drew = eK at o0 I UC JH IH yH PH GH G1 ⊢; refine l2 0 (some 40) (bs 1 27) ?_; refine take_ (i := 1) (N := some 41) (v := ?_) (a' := ?_) (bs 3 27) rfl rfl (XC B2.out fA.out (by kernel_rfl)) (fun _ _ _ h => h) (Or.inl ⟨by rfl, ?_⟩) G1 ?_ ?_; rotate_left
     ·rintro w' ⟨s0, s1, s2, s3, s4, s5, s6, s7, s8, s9, uS, kU⟩; go_simp; with_reducible rfl
     rotate_left
     ·simp only [Act.put, List.setIfInBounds_toArray, List.set_cons_zero, List.set_cons_succ, B3, M3]; rfl
     refine l2 2 (some 42) (bs 7 27) ?_; refine l2 3 (some 43) (bs 15 27) ?_; refine l2 4 (some 44) (bs 31 27) ?_; refine l2 5 (some 45) (bs 63 27) ?_; refine l2 6 (some 46) (bs 127 27) ?_; refine l2 7 (some 47) (bs 255 27) ?_; refine l2 8 (some 48) (bs 511 27) ?_; refine l2 9 (some 49) (bs 1023 27) ?_; refine l2 10 (some 50) (bs 2047 27) ?_; refine l2 11 (some 51) (bs 4095 27) ?_; refine l2 12 (some 52) (bs 8191 27) ?_; refine take_ (i := 13) (N := some 53) (v := ?_) (a' := ?_) (bs 16383 27) rfl rfl (XC B2.out fA.out (by kernel_rfl)) (fun _ _ _ h => h) (Or.inl ⟨by rfl, ?_⟩) G1 ?_ ?_; rotate_left
     ·rintro w' ⟨s0, s1, s2, s3, s4, s5, s6, s7, s8, s9, uS, kU⟩; go_simp; with_reducible rfl
     rotate_left
     ·simp only [Act.put, List.setIfInBounds_toArray, List.set_cons_zero, List.set_cons_succ, B3, M3]; rfl
     refine l2 14 (some 54) (bs 32767 27) ?_; refine l2 15 (some 55) (bs 65535 27) ?_; refine l2 16 (some 56) (bs 131071 27) ?_; refine j6 (i := 17) (N := some 57) (v := undef) (a' := ?_) (bs 262143 27) rfl rfl (z8 B2.out (by kernel_rfl)) (fun _ _ _ h => h) (Or.inr ⟨by rfl, rfl⟩) ?_ ?_; rotate_left
     ·simp only [Act.put, List.setIfInBounds_toArray, List.set_cons_zero, List.set_cons_succ, B3, M3]; rfl
     refine j6 (i := 18) (N := some 58) (v := undef) (a' := ?_) (bs 524287 27) rfl rfl (z8 B2.out (by kernel_rfl)) (fun _ _ _ h => h) (Or.inr ⟨by rfl, rfl⟩) ?_ ?_; rotate_left
     ·simp only [Act.put, List.setIfInBounds_toArray, List.set_cons_zero, List.set_cons_succ, B3, M3]; rfl
     refine j6 (i := 19) (N := some 59) (v := undef) (a' := ?_) (bs 1048575 27) rfl rfl (z8 B2.out (by kernel_rfl)) (fun _ _ _ h => h) (Or.inr ⟨by rfl, rfl⟩) ?_ ?_; rotate_left
     ·simp only [Act.put, List.setIfInBounds_toArray, List.set_cons_zero, List.set_cons_succ, B3, M3]; rfl
     refine j6 (i := 20) (N := some 60) (v := undef) (a' := ?_) (bs 2097151 27) rfl rfl (z8 B2.out (by kernel_rfl)) (fun _ _ _ h => h) (Or.inr ⟨by rfl, rfl⟩) ?_ ?_; rotate_left
     ·simp only [Act.put, List.setIfInBounds_toArray, List.set_cons_zero, List.set_cons_succ, B3, M3]; rfl
     refine j6 (i := 21) (N := some 61) (v := undef) (a' := ?_) (bs 4194303 27) rfl rfl (z8 B2.out (by kernel_rfl)) (fun _ _ _ h => h) (Or.inr ⟨by rfl, rfl⟩) ?_ ?_; rotate_left
     ·simp only [Act.put, List.setIfInBounds_toArray, List.set_cons_zero, List.set_cons_succ, B3, M3]; rfl
     refine j6 (i := 22) (N := some 62) (v := undef) (a' := ?_) (bs 8388607 27) rfl rfl (z8 B2.out (by kernel_rfl)) (fun _ _ _ h => h) (Or.inr ⟨by rfl, rfl⟩) ?_ ?_; rotate_left
     ·simp only [Act.put, List.setIfInBounds_toArray, List.set_cons_zero, List.set_cons_succ, B3, M3]; rfl
     refine j6 (i := 23) (N := some 63) (v := undef) (a' := ?_) (bs 16777215 27) rfl rfl (z8 B2.out (by kernel_rfl)) (fun _ _ _ h => h) (Or.inr ⟨by rfl, rfl⟩) ?_ ?_; rotate_left
     ·simp only [Act.put, List.setIfInBounds_toArray, List.set_cons_zero, List.set_cons_succ, B3, M3]; rfl
     refine j6 (i := 24) (N := some 64) (v := undef) (a' := ?_) (bs 33554431 27) rfl rfl (z8 B2.out (by kernel_rfl)) (fun _ _ _ h => h) (Or.inr ⟨by rfl, rfl⟩) ?_ ?_; rotate_left
     ·simp only [Act.put, List.setIfInBounds_toArray, List.set_cons_zero, List.set_cons_succ, B3, M3]; rfl
     refine j6 (i := 25) (N := some 65) (v := undef) (a' := ?_) (bs 67108863 27) rfl rfl (z8 B2.out (by kernel_rfl)) (fun _ _ _ h => h) (Or.inr ⟨by rfl, rfl⟩) ?_ ?_; rotate_left
     ·simp only [Act.put, List.setIfInBounds_toArray, List.set_cons_zero, List.set_cons_succ, B3, M3]; rfl
     refine l2 26 (some 66) (bs 134217727 27) ?_; refine gH (XJ B2.out (by kernel_rfl)) ?_; try go_wp2
     go_meet
     case rel => exact ⟨_, (true), (by rfl), H', ⟨C_⟩, ⟨bq o0.out⟩, ⟨S0 Q0 I.out⟩⟩
    rw [if_neg b6] at H; have SE : decide (15 ≤ ((U l0 (P3)).f1)) = false := decide_eq_false b6; clear b6; replace H := L2 H; obtain ⟨t110, YR, H⟩ := H; have sW := am YR; clear YR; replace H := L2 H; obtain ⟨t111, ab2, H⟩ := H; have A27 := am ab2; clear ab2; have H' := am H; clear H; try go_wp2
    replace o0 := am (M1 o0.out); replace I := am (G6 I.out); have tC : 0 ≤ ((P3) : Int) := of_decide_eq_true R1; have sC : (P3) < (l0.length : Int) := of_decide_eq_true R1; obtain ⟨qK, mI, UC, JH, IH, yH, PH, GH⟩ := jA J_.out (P3) tC sC; have ZR := GH; have wS := PH; have xT := yH; have RS := IH; have XS := JH; have VU := UC; obtain rfl : P6 = qK := (by injection mI)
    replace UC := W0 I.out UC; replace JH := W0 I.out JH; replace IH := W0 I.out IH; replace yH := W0 I.out yH; replace PH := W0 I.out PH; replace GH := W0 I.out GH; replace tC := eq_true tC; replace sC := eq_true sC; have pI : 0 ≤ ((P3) : Int) := of_decide_eq_true R1; have GI : (P3) < (l0.length : Int) := of_decide_eq_true R1; obtain ⟨Lb, WU, KJ, rJ, BJ, AJ, MJ, EJ⟩ := jA J_.out (P3) pI GI; have Ei := EJ; have Xj := MJ; have Qf := AJ; have Vc := BJ; have Tg := rJ; have Qc := KJ; obtain rfl : P6 = Lb := (by injection WU)
    replace KJ := W0 I.out KJ; replace rJ := W0 I.out rJ; replace BJ := W0 I.out BJ; replace AJ := W0 I.out AJ; replace MJ := W0 I.out MJ; replace EJ := W0 I.out EJ; replace pI := eq_true pI; replace GI := eq_true GI; refine hH (n := 27) (S := fun w' => w'.cell? ⟨K0, 0, none⟩ = some (.int .i64 ((U l0 E0).f0)) ∧ w'.cell? ⟨K0, 1, none⟩ = some (.int .i64 ((U l0 E0).f1)) ∧ w'.cell? ⟨K0, 2, none⟩ = some (.int .i64 ((U l0 E0).f2)) ∧ w'.cell? ⟨K0, 3, none⟩ = some (.int .i64 ((U l0 E0).f3)) ∧ w'.cell? ⟨K0, 4, none⟩ = some (.int .i64 ((U l0 E0).f4)) ∧ w'.cell? ⟨K0, 5, none⟩ = some (.string ((U l0 E0).f5)) ∧ w'.cell? (P6.add (((P3)).toNat * 6)) = some (.int .i64 ((U l0 (P3)).f0)) ∧ w'.cell? ⟨(P6.add (((P3)).toNat * 6)).block, (P6.add (((P3)).toNat * 6)).off + 1, none⟩ = some (.int .i64 ((U l0 (P3)).f1)) ∧ w'.cell? ⟨(P6.add (((P3)).toNat * 6)).block, (P6.add (((P3)).toNat * 6)).off + 2, none⟩ = some (.int .i64 ((U l0 (P3)).f2)) ∧ w'.cell? ⟨(P6.add (((P3)).toNat * 6)).block, (P6.add (((P3)).toNat * 6)).off + 3, none⟩ = some (.int .i64 ((U l0 (P3)).f3)) ∧ w'.cell? ⟨(P6.add (((P3)).toNat * 6)).block, (P6.add (((P3)).toNat * 6)).off + 4, none⟩ = some (.int .i64 ((U l0 (P3)).f4)) ∧ w'.cell? ⟨(P6.add (((P3)).toNat * 6)).block, (P6.add (((P3)).toNat * 6)).off + 5, none⟩ = some (.string ((U l0 (P3)).f5)) ∧ w'.cell? (P6.add (((P3)).toNat * 6)) = some (.int .i64 ((U l0 (P3)).f0)) ∧ w'.cell? ⟨(P6.add (((P3)).toNat * 6)).block, (P6.add (((P3)).toNat * 6)).off + 1, none⟩ = some (.int .i64 ((U l0 (P3)).f1)) ∧ w'.cell? ⟨(P6.add (((P3)).toNat * 6)).block, (P6.add (((P3)).toNat * 6)).off + 2, none⟩ = some (.int .i64 ((U l0 (P3)).f2)) ∧ w'.cell? ⟨(P6.add (((P3)).toNat * 6)).block, (P6.add (((P3)).toNat * 6)).off + 3, none⟩ = some (.int .i64 ((U l0 (P3)).f3)) ∧ w'.cell? ⟨(P6.add (((P3)).toNat * 6)).block, (P6.add (((P3)).toNat * 6)).off + 4, none⟩ = some (.int .i64 ((U l0 (P3)).f4)) ∧ w'.cell? ⟨(P6.add (((P3)).toNat * 6)).block, (P6.add (((P3)).toNat * 6)).off + 5, none⟩ = some (.string ((U l0 (P3)).f5))) (ds := []) #[false, false, false, false, false, false, false, false, false, false, false, false, false, false, false, false, false, false, false, false, false, false, false, false, false, false, false] (by kernel_rfl) rfl rfl ⟨(G0 o0.out 0).trans rfl, (G0 o0.out 1).trans rfl, (G0 o0.out 2).trans rfl, (G0 o0.out 3).trans rfl, (G0 o0.out 4).trans rfl, (G0 o0.out 5).trans rfl, (W0 I.out VU), (W0 I.out XS), (W0 I.out RS), (W0 I.out xT), (W0 I.out wS), (W0 I.out ZR), (W0 I.out Qc), (W0 I.out Tg), (W0 I.out Vc), (W0 I.out Qf), (W0 I.out Xj), (W0 I.out Ei)⟩ (fun G1 => ?_); refine PJ G3.tab11 G3.bits11 (fun B2 fA => ?_); generalize b_.drew = Oi at o0 I UC JH IH yH PH GH KJ rJ BJ AJ MJ EJ G1 ⊢; refine l2 0 (some 40) (bs 1 27) ?_; refine take_ (i := 1) (N := some 41) (v := ?_) (a' := ?_) (bs 3 27) rfl rfl (XC B2.out fA.out (by kernel_rfl)) (fun _ _ _ h => h) (Or.inl ⟨by rfl, ?_⟩) G1 ?_ ?_; rotate_left
    ·rintro w' ⟨s0, s1, s2, s3, s4, s5, s6, s7, s8, s9, uS, kU, Aa, Zc, Hk, Qi, Ub, Pd⟩; go_simp; with_reducible rfl
    rotate_left
    ·simp only [Act.put, List.setIfInBounds_toArray, List.set_cons_zero, List.set_cons_succ, B3, M3]; rfl
    refine l2 2 (some 42) (bs 7 27) ?_; refine l2 3 (some 43) (bs 15 27) ?_; refine l2 4 (some 44) (bs 31 27) ?_; refine l2 5 (some 45) (bs 63 27) ?_; refine l2 6 (some 46) (bs 127 27) ?_; refine l2 7 (some 47) (bs 255 27) ?_; refine l2 8 (some 48) (bs 511 27) ?_; refine l2 9 (some 49) (bs 1023 27) ?_; refine l2 10 (some 50) (bs 2047 27) ?_; refine l2 11 (some 51) (bs 4095 27) ?_; refine l2 12 (some 52) (bs 8191 27) ?_; refine take_ (i := 13) (N := some 53) (v := ?_) (a' := ?_) (bs 16383 27) rfl rfl (XC B2.out fA.out (by kernel_rfl)) (fun _ _ _ h => h) (Or.inl ⟨by rfl, ?_⟩) G1 ?_ ?_; rotate_left
    ·rintro w' ⟨s0, s1, s2, s3, s4, s5, s6, s7, s8, s9, uS, kU, Aa, Zc, Hk, Qi, Ub, Pd⟩; go_simp; with_reducible rfl
    rotate_left
    ·simp only [Act.put, List.setIfInBounds_toArray, List.set_cons_zero, List.set_cons_succ, B3, M3]; rfl
    refine l2 14 (some 54) (bs 32767 27) ?_; refine l2 15 (some 55) (bs 65535 27) ?_; refine l2 16 (some 56) (bs 131071 27) ?_; refine l2 17 (some 57) (bs 262143 27) ?_; refine l2 18 (some 58) (bs 524287 27) ?_; refine l2 19 (some 59) (bs 1048575 27) ?_; refine l2 20 (some 60) (bs 2097151 27) ?_; refine take_ (i := 21) (N := some 61) (v := ?_) (a' := ?_) (bs 4194303 27) rfl rfl (XC B2.out fA.out (by kernel_rfl)) (fun _ _ _ h => h) (Or.inl ⟨by rfl, ?_⟩) G1 ?_ ?_; rotate_left
    ·rintro w' ⟨s0, s1, s2, s3, s4, s5, s6, s7, s8, s9, uS, kU, Aa, Zc, Hk, Qi, Ub, Pd⟩; go_simp; with_reducible rfl
    rotate_left
    ·simp only [Act.put, List.setIfInBounds_toArray, List.set_cons_zero, List.set_cons_succ, B3, M3]; rfl
    refine take_ (i := 23) (N := some 63) (v := ?_) (a' := ?_) (bs 12582911 27) rfl rfl (XC B2.out fA.out (by kernel_rfl)) (fun _ _ _ h => h) (Or.inl ⟨by rfl, ?_⟩) G1 ?_ ?_; rotate_left
    ·rintro w' ⟨s0, s1, s2, s3, s4, s5, s6, s7, s8, s9, uS, kU, Aa, Zc, Hk, Qi, Ub, Pd⟩; go_simp; with_reducible rfl
    rotate_left
    ·simp only [Act.put, List.setIfInBounds_toArray, List.set_cons_zero, List.set_cons_succ, B3, M3]; rfl
    refine l9 (i := 22) (N := some 62) (bs 16777215 27) rfl rfl (U8 B2.out (by kernel_rfl)) (by decide) (fun K hK => ?_); refine p_ Try.func64 (by kernel_rfl) rfl #[.agg #[.int .i64 ((U l0 (P3)).f0), .int .i64 ((U l0 (P3)).f1), .int .i64 ((U l0 (P3)).f2), .int .i64 ((U l0 (P3)).f3), .int .i64 ((U l0 (P3)).f4), .string ((U l0 (P3)).f5)]] (by rfl) rfl rfl F2 ?_; with_reducible refine (CE.calls ((U l0 (P3)).f0) ((U l0 (P3)).f1) ((U l0 (P3)).f2) ((U l0 (P3)).f3) ((U l0 (P3)).f4) ((U l0 (P3)).f5) t110 _ sW.out).mono ?_
    rintro e MT ⟨rfl, G⟩; refine ⟨_, rfl, ?_⟩; replace o0 := am (O0 (bq o0.out) G); replace I := am (T0 (S0 Q0 I.out) G); (try clear G); (try clear C5); (try clear X); (try clear hi); refine hK.out _ _ ⟨(G0 o0.out 0).trans rfl, (G0 o0.out 1).trans rfl, (G0 o0.out 2).trans rfl, (G0 o0.out 3).trans rfl, (G0 o0.out 4).trans rfl, (G0 o0.out 5).trans rfl, (W0 I.out VU), (W0 I.out XS), (W0 I.out RS), (W0 I.out xT), (W0 I.out wS), (W0 I.out ZR), (W0 I.out Qc), (W0 I.out Tg), (W0 I.out Vc), (W0 I.out Qf), (W0 I.out Xj), (W0 I.out Ei)⟩ (fun G1 => ?_); clear hK K; refine D5 (some 62) ?_; refine l9 (i := 24) (N := some 64) (bs 33554431 27) rfl rfl (U8 B2.out (by kernel_rfl)) (by decide) (fun K hK => ?_); refine p_ Try.func64 (by kernel_rfl) rfl #[.agg #[.int .i64 ((U l0 E0).f0), .int .i64 ((U l0 E0).f1), .int .i64 ((U l0 E0).f2), .int .i64 ((U l0 E0).f3), .int .i64 ((U l0 E0).f4), .string ((U l0 E0).f5)]] (by rfl) rfl rfl F2 ?_; with_reducible refine (CE.calls ((U l0 E0).f0) ((U l0 E0).f1) ((U l0 E0).f2) ((U l0 E0).f3) ((U l0 E0).f4) ((U l0 E0).f5) t111 _ A27.out).mono ?_
    rintro e Nh ⟨rfl, G⟩; refine ⟨_, rfl, ?_⟩; replace o0 := am (O0 (bq o0.out) G); replace I := am (T0 (S0 Q0 I.out) G); (try clear G); (try clear C5); (try clear X); (try clear hi); refine hK.out _ _ ⟨(G0 o0.out 0).trans rfl, (G0 o0.out 1).trans rfl, (G0 o0.out 2).trans rfl, (G0 o0.out 3).trans rfl, (G0 o0.out 4).trans rfl, (G0 o0.out 5).trans rfl, (W0 I.out VU), (W0 I.out XS), (W0 I.out RS), (W0 I.out xT), (W0 I.out wS), (W0 I.out ZR), (W0 I.out Qc), (W0 I.out Tg), (W0 I.out Vc), (W0 I.out Qf), (W0 I.out Xj), (W0 I.out Ei)⟩ (fun G1 => ?_); clear hK K; refine D5 (some 64) ?_; refine l2 25 (some 65) (bs 67108863 27) ?_; refine l2 26 (some 66) (bs 134217727 27) ?_; refine gH (XJ B2.out (by kernel_rfl)) ?_; try go_wp2
    go_meet
    case rel => exact ⟨_, ((t110 != t111)), (by rfl), H', ⟨C_⟩, ⟨bq o0.out⟩, ⟨S0 Q0 I.out⟩⟩
   case rest =>
    clear tO; obtain ⟨kq, dW, rfl, HA, xF, o0, I⟩ := hcut; cases kq with
    | zero => exact absurd HA.out (by simp [G3.j1])
    | succ xQ =>
     have H := HA.out; clear HA; simp only [G3.j1] at H; have AI := am H; clear H; go_upto_if 66 with (fail)
     go_cut [4] (fun v4 wc => ∃ (kq : Nat) (pJ : ByteArray), v4 = .string pJ ∧ Aside0 (G3.j2 kq l0 pJ E0 t106 ((U l0 E0).f0) ((U l0 E0).f1) ((U l0 E0).f2) ((U l0 E0).f3) ((U l0 E0).f4) ((U l0 E0).f5) = some (r1, r2)) ∧ Aside0 (kq ≤ xQ) ∧ Aside0 (wc.heap[K0]? = some (.cells #[.int .i64 ((U l0 E0).f0), .int .i64 ((U l0 E0).f1), .int .i64 ((U l0 E0).f2), .int .i64 ((U l0 E0).f3), .int .i64 ((U l0 E0).f4), .string ((U l0 E0).f5)] 28 (0, 0))) ∧ Aside0 (Below w.heap.size w wc))
     case first =>
      have H := AI.out; clear AI; by_cases o9 : dW = true; rotate_left
      ·replace o9 := Bool.eq_false_iff.mpr o9; subst o9; have H1 : (G3.j2 xQ l0 (V0 ++ t104) E0 t106 ((U l0 E0).f0) ((U l0 E0).f1) ((U l0 E0).f2) ((U l0 E0).f3) ((U l0 E0).f4) ((U l0 E0).f5)) = some (r1, r2) := by rw [if_neg (show ¬ (false = true) by decide)] at H; exact H
       clear H; have H := H1; clear H1; have H' := am H; clear H; go_wp2; go_meet
       case rel => exact ⟨_, ((V0 ++ t104)), (by rfl), H', ⟨by have := S4.out; have := xF.out; omega⟩, ⟨bq o0.out⟩, ⟨S0 Q0 I.out⟩⟩
      subst o9; have H1 : ((CE.f ((U l0 E0).f0) ((U l0 E0).f1) ((U l0 E0).f2) ((U l0 E0).f3) ((U l0 E0).f4) ((U l0 E0).f5)).bind fun t112 => ((some (([(t112) % 256] : List Int) : List Int)).bind fun eA => (if (V0 ++ t104).size + (strOfNums eA).size ≤ 9223372036854775807 then (G3.j2 xQ l0 ((V0 ++ t104) ++ (strOfNums eA)) E0 t106 ((U l0 E0).f0) ((U l0 E0).f1) ((U l0 E0).f2) ((U l0 E0).f3) ((U l0 E0).f4) ((U l0 E0).f5)) else (none)))) = some (r1, r2) := by rw [if_pos rfl] at H; exact H
      clear H; have H := H1; clear H1; replace H := L2 H; obtain ⟨t112, gU, H⟩ := H; have Wd := am gU; clear gU; obtain ⟨eA, YN⟩ : ∃ y_ : List Int, y_ = (([(t112) % 256] : List Int)) := ⟨_, rfl⟩
      replace H : (if (V0 ++ t104).size + (strOfNums eA).size ≤ 9223372036854775807 then (G3.j2 xQ l0 ((V0 ++ t104) ++ (strOfNums eA)) E0 t106 ((U l0 E0).f0) ((U l0 E0).f1) ((U l0 E0).f2) ((U l0 E0).f3) ((U l0 E0).f4) ((U l0 E0).f5)) else (none)) = some (r1, r2) := by (have S6 := (Option.bind_some _ _).symm.trans H; rw [YN]; with_reducible exact S6)
      have Jc := am YN; clear YN; by_cases TB : (V0 ++ t104).size + (strOfNums eA).size ≤ 9223372036854775807; rotate_left
      ·rw [if_neg TB] at H; exact absurd H (by simp)
      rw [if_pos TB] at H; have Bh := eq_true TB; have bn3 : decide ((V0 ++ t104).size + (strOfNums eA).size ≤ 9223372036854775807) = true := decide_eq_true TB; try have bb2 : (9223372036854775807 < (V0 ++ t104).size + (strOfNums eA).size) = False := eq_false (Nat.not_lt.2 TB)
      have H' := am H; clear H; obtain ⟨KN, uO, xN, UO, NO, IN, LN, QN, AO, pO, OO, yO⟩ := S1 o0.out; go_wp2_with (first | ((with_reducible refine H2 (f := 64) rfl ?_); refine G2 (some 69) rfl rfl Try.func64 (by kernel_rfl) rfl #[.agg #[.int .i64 ((U l0 E0).f0), .int .i64 ((U l0 E0).f1), .int .i64 ((U l0 E0).f2), .int .i64 ((U l0 E0).f3), .int .i64 ((U l0 E0).f4), .string ((U l0 E0).f5)]] rfl F2 ?_; (with_reducible refine (CE.calls ((U l0 E0).f0) ((U l0 E0).f1) ((U l0 E0).f2) ((U l0 E0).f3) ((U l0 E0).f4) ((U l0 E0).f5) t112 _ Wd.out).mono ?_); rintro e Kq ⟨rfl, G⟩; refine ⟨_, rfl, ?_⟩; replace o0 := am (O0 (bq o0.out) G); replace I := am (T0 (S0 Q0 I.out) G); ) | ((with_reducible refine P2 (N := 71) rfl ?_); refine Kd.PF (Kd.int .u8) _ 5 ?hg (N := 71) ?hd (xs := ([(t112) % 256] : List Int)) (inner := [.int .u8 ((t112) % 256)]) (ok := fun _ => True) (okp := fun _ => True) ?hr ?hp (fun _ X => X) trivial (Below.refl _ _) (Nat.le_refl _) (by simp) ?_; (case hd => rfl); (case hg => rfl); (case hr => exact Z2); (case hp => exact (J2.one (show Kd.M (Kd.int .u8) _ _ _ ((t112) % 256) [.int .u8 ((t112) % 256)] from rfl) (J2.none _ _))); intro Ez NV Fh G i3 e7; clear i3 e7; (rw [← Jc.out] at Fh); have wM := am (Kd.j9 Fh (S3 (S0 Q0 I.out))); replace o0 := am (O0 (bq o0.out) G); replace I := am (T0 (S0 Q0 I.out) G); clear G Fh; have ay8 := vL (P := Try.prog) Try.underlying39 Try.underlying5 Try.underlying9 (Kd.yG wM.out))); go_meet
      case rel => exact ⟨_, ((V0 ++ t104) ++ (strOfNums eA)), (by rfl), H', ⟨by have := S4.out; have := xF.out; omega⟩, ⟨bq o0.out⟩, ⟨S0 Q0 I.out⟩⟩
     case rest =>
      clear AI; obtain ⟨kq, pJ, rfl, HA, ZI, o0, I⟩ := hcut; cases kq with
      | zero => exact absurd HA.out (by simp [G3.j2])
      | succ DN =>
       have H := HA.out; clear HA; simp only [G3.j2] at H; have Ii := am H; clear H; obtain ⟨yP, FP, VQ, Wp, Ar, Jq, SP, bQ, IQ, Mq, Qv, Hv⟩ := S1 o0.out; go_upto_if 76 with (fail)
       go_cut [4] (fun v4 wc => ∃ (kq : Nat) (OD : ByteArray), v4 = .string OD ∧ Aside0 (G3.j3 kq l0 OD E0 t106 ((U l0 E0).f0) ((U l0 E0).f1) ((U l0 E0).f2) ((U l0 E0).f3) ((U l0 E0).f4) ((U l0 E0).f5) = some (r1, r2)) ∧ Aside0 (kq ≤ DN) ∧ Aside0 (wc.heap[K0]? = some (.cells #[.int .i64 ((U l0 E0).f0), .int .i64 ((U l0 E0).f1), .int .i64 ((U l0 E0).f2), .int .i64 ((U l0 E0).f3), .int .i64 ((U l0 E0).f4), .string ((U l0 E0).f5)] 28 (0, 0))) ∧ Aside0 (Below w.heap.size w wc))
       case first =>
        have H := Ii.out; clear Ii; by_cases FA : ((U l0 E0).f1) = 15
        ·rw [if_pos FA] at H; have OU : (((U l0 E0).f1) == 15) = true := beq_iff_eq.mpr FA; have LU : (((U l0 E0).f1) != 15) = false := bne_eq_false_iff_eq.mpr FA; clear FA; have H' := am H; clear H; go_wp2; go_meet
         case rel => exact ⟨_, (pJ), (by rfl), H', ⟨by have := S4.out; have := xF.out; have := ZI.out; omega⟩, ⟨bq o0.out⟩, ⟨S0 Q0 I.out⟩⟩
        rw [if_neg FA] at H; have OU : (((U l0 E0).f1) == 15) = false := beq_eq_false_iff_ne.mpr FA; have LU : (((U l0 E0).f1) != 15) = true := bne_iff_ne.mpr FA; obtain ⟨DK, Gi⟩ : ∃ y_ : List Int, y_ = (([(((U l0 E0).f3)) % 256] : List Int)) := ⟨_, rfl⟩
        replace H : (if pJ.size + (strOfNums DK).size ≤ 9223372036854775807 then (G3.j3 DN l0 (pJ ++ (strOfNums DK)) E0 t106 ((U l0 E0).f0) ((U l0 E0).f1) ((U l0 E0).f2) ((U l0 E0).f3) ((U l0 E0).f4) ((U l0 E0).f5)) else (none)) = some (r1, r2) := by (have S6 := (Option.bind_some _ _).symm.trans H; rw [Gi]; with_reducible exact S6)
        have bp8 := am Gi; clear Gi; by_cases TD : pJ.size + (strOfNums DK).size ≤ 9223372036854775807; rotate_left
        ·rw [if_neg TD] at H; exact absurd H (by simp)
        rw [if_pos TD] at H; have Jw := eq_true TD; have ad3 : decide (pJ.size + (strOfNums DK).size ≤ 9223372036854775807) = true := decide_eq_true TD; try have dx4 : (9223372036854775807 < pJ.size + (strOfNums DK).size) = False := eq_false (Nat.not_lt.2 TD)
        have H' := am H; clear H; obtain ⟨OX, nX, hX, Ah, Hd, Kj, VW, LX, DV, YZ, Ra, Uj⟩ := S1 o0.out; go_wp2_with (((with_reducible refine P2 (N := 81) rfl ?_); refine Kd.PF (Kd.int .u8) _ 5 ?hg (N := 81) ?hd (xs := ([(((U l0 E0).f3)) % 256] : List Int)) (inner := [.int .u8 ((((U l0 E0).f3)) % 256)]) (ok := fun _ => True) (okp := fun _ => True) ?hr ?hp (fun _ X => X) trivial (Below.refl _ _) (Nat.le_refl _) (by simp) ?_; (case hd => rfl); (case hg => rfl); (case hr => exact Z2); (case hp => exact (J2.one (show Kd.M (Kd.int .u8) _ _ _ ((((U l0 E0).f3)) % 256) [.int .u8 ((((U l0 E0).f3)) % 256)] from rfl) (J2.none _ _))); intro ch3 w45 Vg G i3 e7; clear i3 e7; (rw [← bp8.out] at Vg); have dO := am (Kd.j9 Vg (S3 (S0 Q0 I.out))); replace o0 := am (O0 (bq o0.out) G); replace I := am (T0 (S0 Q0 I.out) G); clear G Vg; have fc6 := vL (P := Try.prog) Try.underlying39 Try.underlying5 Try.underlying9 (Kd.yG dO.out))); go_meet
        case rel => exact ⟨_, (pJ ++ (strOfNums DK)), (by rfl), H', ⟨by have := S4.out; have := xF.out; have := ZI.out; omega⟩, ⟨bq o0.out⟩, ⟨S0 Q0 I.out⟩⟩
       case rest =>
        clear Ii; obtain ⟨kq, OD, rfl, HA, CS, o0, I⟩ := hcut; cases kq with
        | zero => exact absurd HA.out (by simp [G3.j3])
        | succ JS =>
         have H := HA.out; clear HA; simp only [G3.j3] at H; by_cases ZF : ((U l0 E0).f1) ≥ 15
         ·rw [if_pos ZF] at H; have Th : decide (15 ≤ ((U l0 E0).f1)) = true := decide_eq_true ZF; clear ZF; by_cases OM : OD.size + t106.size ≤ 9223372036854775807; rotate_left
          ·rw [if_neg OM] at H; exact absurd H (by simp)
          rw [if_pos OM] at H; have ex5 := eq_true OM; have fq6 : decide (OD.size + t106.size ≤ 9223372036854775807) = true := decide_eq_true OM; try have eh4 : (9223372036854775807 < OD.size + t106.size) = False := eq_false (Nat.not_lt.2 OM)
          by_cases RF : (OD ++ t106).size + ((U l0 E0).f5).size ≤ 9223372036854775807; rotate_left
          ·rw [if_neg RF] at H; exact absurd H (by simp)
          rw [if_pos RF] at H; have fr6 := eq_true RF; have en5 : decide ((OD ++ t106).size + ((U l0 E0).f5).size ≤ 9223372036854775807) = true := decide_eq_true RF; try have fh2 : (9223372036854775807 < (OD ++ t106).size + ((U l0 E0).f5).size) = False := eq_false (Nat.not_lt.2 RF)
          have H' := am H; clear H; obtain ⟨bo6, bj2, bf7, cc5, cl4, bu2, bg3, bh2, az8, bn0, bw3, bz2⟩ := S1 o0.out; go_wp2; go_roundg JS
          case measure => have := S4.out; have := xF.out; have := ZI.out; have := CS.out; omega
          case rel => exact ⟨((OD ++ t106) ++ ((U l0 E0).f5)), (wrap64 (E0 + 1)), (by rfl), (by rfl), H', ⟨XY⟩, ⟨S0 Q0 I.out⟩⟩
         rw [if_neg ZF] at H; have Th : decide (15 ≤ ((U l0 E0).f1)) = false := decide_eq_false ZF; clear ZF; by_cases AC : ((U l0 E0).f1) = 12
         ·rw [if_pos AC] at H; have Ua : (((U l0 E0).f1) == 12) = true := beq_iff_eq.mpr AC; have Aj : (((U l0 E0).f1) != 12) = false := bne_eq_false_iff_eq.mpr AC; clear AC; have H' := am H; clear H; obtain ⟨eh2, eh9, dm9, fk0, ec3, ef6, fb1, dy6, fg2, eb2, fc7, de6⟩ := S1 o0.out; go_wp2; go_roundg JS
          case measure => have := S4.out; have := xF.out; have := ZI.out; have := CS.out; omega
          case rel => exact ⟨(OD), (wrap64 (E0 + 1)), (by rfl), (by rfl), H', ⟨XY⟩, ⟨S0 Q0 I.out⟩⟩
         rw [if_neg AC] at H; have Ua : (((U l0 E0).f1) == 12) = false := beq_eq_false_iff_ne.mpr AC; have Aj : (((U l0 E0).f1) != 12) = true := bne_iff_ne.mpr AC; by_cases iD : ((U l0 E0).f1) = 13
         ·rw [if_pos iD] at H; have bz8 : (((U l0 E0).f1) == 13) = true := beq_iff_eq.mpr iD; have ca2 : (((U l0 E0).f1) != 13) = false := bne_eq_false_iff_eq.mpr iD; clear iD; have H' := am H; clear H; obtain ⟨fs2, dr3, dw2, ej4, dc0, fn6, em0, dw6, fp1, dl0, fq2, es0⟩ := S1 o0.out; go_wp2; go_roundg JS
          case measure => have := S4.out; have := xF.out; have := ZI.out; have := CS.out; omega
          case rel => exact ⟨(OD), (wrap64 (E0 + 1)), (by rfl), (by rfl), H', ⟨XY⟩, ⟨S0 Q0 I.out⟩⟩
         rw [if_neg iD] at H; have bz8 : (((U l0 E0).f1) == 13) = false := beq_eq_false_iff_ne.mpr iD; have ca2 : (((U l0 E0).f1) != 13) = true := bne_iff_ne.mpr iD; obtain ⟨gA, FO⟩ : ∃ y_ : List Int, y_ = (([(((U l0 E0).f4)) % 256] : List Int)) := ⟨_, rfl⟩
         replace H : (if OD.size + (strOfNums gA).size ≤ 9223372036854775807 then (G3.l0 JS l0 (OD ++ (strOfNums gA)) (wrap64 (E0 + 1))) else (none)) = some (r1, r2) := by (have S6 := (Option.bind_some _ _).symm.trans H; rw [FO]; with_reducible exact S6)
         have Ze := am FO; clear FO; by_cases yS : OD.size + (strOfNums gA).size ≤ 9223372036854775807; rotate_left
         ·rw [if_neg yS] at H; exact absurd H (by simp)
         rw [if_pos yS] at H; have eh0 := eq_true yS; have dk8 : decide (OD.size + (strOfNums gA).size ≤ 9223372036854775807) = true := decide_eq_true yS; try have fs0 : (9223372036854775807 < OD.size + (strOfNums gA).size) = False := eq_false (Nat.not_lt.2 yS)
         have H' := am H; clear H; obtain ⟨Ij, Ob, Of, St, Nw, Gq, Dg, Bi, Hi, Gp, aa5, ab8⟩ := S1 o0.out; go_wp2_with (((with_reducible refine P2 (N := 105) rfl ?_); refine Kd.PF (Kd.int .u8) _ 5 ?hg (N := 105) ?hd (xs := ([(((U l0 E0).f4)) % 256] : List Int)) (inner := [.int .u8 ((((U l0 E0).f4)) % 256)]) (ok := fun _ => True) (okp := fun _ => True) ?hr ?hp (fun _ X => X) trivial (Below.refl _ _) (Nat.le_refl _) (by simp) ?_; (case hd => rfl); (case hg => rfl); (case hr => exact Z2); (case hp => exact (J2.one (show Kd.M (Kd.int .u8) _ _ _ ((((U l0 E0).f4)) % 256) [.int .u8 ((((U l0 E0).f4)) % 256)] from rfl) (J2.none _ _))); intro Cu uY Gj G i3 e7; clear i3 e7; (rw [← Ze.out] at Gj); have CT := am (Kd.j9 Gj (S3 (S0 Q0 I.out))); replace o0 := am (O0 (bq o0.out) G); replace I := am (T0 (S0 Q0 I.out) G); clear G Gj; have fa2 := vL (P := Try.prog) Try.underlying39 Try.underlying5 Try.underlying9 (Kd.yG CT.out))); go_roundg JS
         case measure => have := S4.out; have := xF.out; have := ZI.out; have := CS.out; omega
         case rel => exact ⟨(OD ++ (strOfNums gA)), (wrap64 (E0 + 1)), (by rfl), (by rfl), H', ⟨XY⟩, ⟨S0 Q0 I.out⟩⟩
def M9.l0 : Nat → ByteArray → Int → Int → Int → List (List (N0)) → Option (ByteArray × Int)
 | 0, _, _, _, _, _ => none
 | k + 1, x6, x7, H5, W3, T2 => if x7 < (T2.length : Int) then (if 0 ≤ x7 then ((G3.f k (L0 T2 x7)).bind fun OC => (if x6.size + 4 ≤ 9223372036854775807 then ((n8.f k (OC.1.size : Int) 4).bind fun t111 => (if (x6 ++ (⟨#[77, 84, 114, 107]⟩ : ByteArray)).size + t111.size ≤ 9223372036854775807 then (if ((x6 ++ (⟨#[77, 84, 114, 107]⟩ : ByteArray)) ++ t111).size + OC.1.size ≤ 9223372036854775807 then (M9.l0 k (((x6 ++ (⟨#[77, 84, 114, 107]⟩ : ByteArray)) ++ t111) ++ OC.1) (wrap64 (x7 + 1)) H5 W3 T2) else (none)) else (none))) else (none))) else (none)) else (if (x6.size : Int) > 100000 then (some ((⟨#[]⟩ : ByteArray), 160)) else (some (x6, 0)))
def M9.f (k : Nat) (I0 : Int) (C0 : Int) (B0 : List (List (N0))) : Option (ByteArray × Int) := (X4.f k I0 C0 B0).bind fun z6 => (if z6.2 = 0 then ((n8.f k 6 4).bind fun t104 => (if 4 + t104.size ≤ 9223372036854775807 then ((n8.f k I0 2).bind fun t105 => (if ((⟨#[77, 84, 104, 100]⟩ : ByteArray) ++ t104).size + t105.size ≤ 9223372036854775807 then ((n8.f k (B0.length : Int) 2).bind fun t106 => (if (((⟨#[77, 84, 104, 100]⟩ : ByteArray) ++ t104) ++ t105).size + t106.size ≤ 9223372036854775807 then ((n8.f k C0 2).bind fun t107 => (if ((((⟨#[77, 84, 104, 100]⟩ : ByteArray) ++ t104) ++ t105) ++ t106).size + t107.size ≤ 9223372036854775807 then (M9.l0 k (((((⟨#[77, 84, 104, 100]⟩ : ByteArray) ++ t104) ++ t105) ++ t106) ++ t107) 0 I0 C0 B0) else (none))) else (none))) else (none))) else (none))) else (some ((⟨#[]⟩ : ByteArray), z6.2)))
theorem M9.mono_l : ∀ k, (∀ y0 y1 y2 y3 y4, F0 (M9.l0 k y0 y1 y2 y3 y4) (M9.l0 (k + 1) y0 y1 y2 y3 y4))
 | 0 => fun _ _ _ _ _ r h => by simp [M9.l0] at h
 | k + 1 => by
  have O2 := M9.mono_l k
  ·intro y0 y1 y2 y3 y4
   unfold M9.l0
   repeat' with_reducible first
    | apply O2
    | apply G3.mono
    | apply n8.mono
    | apply F0.refl
    | refine F0.ite ?_ ?_
    | refine F0.bind ?_ (fun _ => ?_)
theorem M9.mono : ∀ a0 a1 a2 k, F0 (M9.f k a0 a1 a2) (M9.f (k + 1) a0 a1 a2) := by
 intro a0 a1 a2 k
 have O2 := M9.mono_l k
 unfold M9.f
 repeat' with_reducible first
  | apply O2
  | apply X4.mono
  | apply n8.mono
  | apply F0.refl
  | refine F0.ite ?_ ?_
  | refine F0.bind ?_ (fun _ => ?_)
def M9.T4 : Bool × List (List Nat × List Nat) := (true, [([], []), ([0], [0]), ([], []), ([2], [2]), ([3, 0], [3]), ([1, 4], [1, 4]), ([], []), ([6], [6]), ([7], [7]), ([8, 4], [8]), ([5, 9], [5, 9]), ([], []), ([11], [11]), ([12, 9], [12]), ([10, 13], [10, 13]), ([14, 13, 0, 1, 2, 3, 4, 5, 6, 7, 8, 9, 10, 11, 12, 13, 14], [14])])
def M9.B4 : List Nat := [0, 1, 0, 4, 13, 31, 0, 64, 192, 477, 1023, 0, 2048, 7133, 16383, 32767]
theorem M9.tab4 : BA .any (opsOf Try.f29 4) = M9.T4 := by kernel_rfl
theorem M9.bits4 : fJ M9.T4.2 M9.B4 = true := by kernel_rfl
set_option maxHeartbeats 8000000 in
set_option maxRecDepth 100000 in
theorem M9.calls (k : Nat) (I0 : Int) (C0 : Int) (Q3 : Option Addr) (N3 : Nat) (B0 : List (List (N0))) (r1 : ByteArray) (r2 : Int) (w : World) (oA : Kd.C (Kd.slice 28 L3) w Q3 B0.length B0) (qA : B0.length ≤ N3) (h : M9.f k I0 C0 B0 = some (r1, r2)) :
 Calls Try.prog 29 #[.agg #[.int .i64 I0, .int .i64 C0, .slice Q3 B0.length N3]] w fun e w' => e = .returned (.tuple #[.string r1, .int .i64 r2]) ∧ Below w.heap.size w w' := by
 have OH := Try.underlying24; have X6 := am oA; have bC := am qA; clear oA qA; have I := am (Below.refl w.heap.size w); have H := h; unfold M9.f at H; clear h; replace H := L2 H; obtain ⟨⟨t102, t103⟩, f_, H⟩ := H; have A2 := am f_; clear f_; by_cases c3 : t103 = 0; rotate_left
 ·rw [if_neg c3] at H; have S8 : (t103 == 0) = false := beq_eq_false_iff_ne.mpr c3; have qD : (t103 != 0) = true := bne_iff_ne.mpr c3; simp only [Option.some.injEq, Prod.mk.injEq] at H; obtain ⟨rfl, rfl⟩ := H; go_enter Try.func29, Try.ntmps29; go_wp2_with (first | ((with_reducible refine P2 (N := 1) rfl ?_); refine D3 ?hg (N := 1) ?hd (cs := #[.int .i64 I0, .int .i64 C0, .slice Q3 B0.length N3]) (t := 24) ?hr ?_; (case hd => rfl); (case hg => rfl); (case hr => exact Z2); intro n0 hg rH M0 G; have Y := am (M0); have W6 := am ((U2 : w.heap.size ≤ n0)); have H0 := am ((U2 : w.heap.size ≤ n0)); replace I := am (T0 (qB I.out) G); clear G M0 hg; obtain ⟨Mg, Gb, Di, Ck, Ai, Mk⟩ := V2 Y.out) | ((with_reducible refine H2 (f := 28) rfl ?_); refine G2 (some 12) rfl rfl Try.func28 (by kernel_rfl) rfl #[.agg #[.int .i64 I0, .int .i64 C0, .slice Q3 B0.length N3]] rfl F2 ?_; (with_reducible refine (X4.calls k I0 C0 _ _ B0 t102 t103 _ ?side1 ?side2 A2.out).mono ?_); (case side1 => repeat (exact (Kd.cB X6.out I.out))); (case side2 => exact bC.out); rintro e qW ⟨rfl, G⟩; refine ⟨_, rfl, ?_⟩; replace Y := am (O0 (bq Y.out) G); replace I := am (T0 (S0 H0 I.out) G); )); go_ret2; exact ⟨by rfl, S0 H0 I.out⟩
 rw [if_pos c3] at H; have S8 : (t103 == 0) = true := beq_iff_eq.mpr c3; have qD : (t103 != 0) = false := bne_eq_false_iff_eq.mpr c3; clear c3; replace H := L2 H; obtain ⟨t104, mA, H⟩ := H; have A4 := am mA; clear mA; by_cases c5 : 4 + t104.size ≤ 9223372036854775807; rotate_left
 ·rw [if_neg c5] at H; exact absurd H (by simp)
 rw [if_pos c5] at H; have qC := eq_true c5; have DF : decide (4 + t104.size ≤ 9223372036854775807) = true := decide_eq_true c5; try have Vv : (9223372036854775807 < 4 + t104.size) = False := eq_false (Nat.not_lt.2 c5)
 replace H := L2 H; obtain ⟨t105, aG, H⟩ := H; have A6 := am aG; clear aG; by_cases c7 : ((⟨#[77, 84, 104, 100]⟩ : ByteArray) ++ t104).size + t105.size ≤ 9223372036854775807; rotate_left
 ·rw [if_neg c7] at H; exact absurd H (by simp)
 rw [if_pos c7] at H; have lC := eq_true c7; have zL : decide (((⟨#[77, 84, 104, 100]⟩ : ByteArray) ++ t104).size + t105.size ≤ 9223372036854775807) = true := decide_eq_true c7; try have eb9 : (9223372036854775807 < ((⟨#[77, 84, 104, 100]⟩ : ByteArray) ++ t104).size + t105.size) = False := eq_false (Nat.not_lt.2 c7)
 try have dk2 : (9223372036854775807 < 4 + t104.size + t105.size) = False := eq_false (Nat.not_lt.2 (by have h_ := c7; simp only [ByteArray.size_append] at h_; exact h_))
 replace H := L2 H; obtain ⟨t106, VF, H⟩ := H; have A8 := am VF; clear VF; by_cases c9 : (((⟨#[77, 84, 104, 100]⟩ : ByteArray) ++ t104) ++ t105).size + t106.size ≤ 9223372036854775807; rotate_left
 ·rw [if_neg c9] at H; exact absurd H (by simp)
 rw [if_pos c9] at H; have xH := eq_true c9; have JP : decide ((((⟨#[77, 84, 104, 100]⟩ : ByteArray) ++ t104) ++ t105).size + t106.size ≤ 9223372036854775807) = true := decide_eq_true c9; try have do7 : (9223372036854775807 < (((⟨#[77, 84, 104, 100]⟩ : ByteArray) ++ t104) ++ t105).size + t106.size) = False := eq_false (Nat.not_lt.2 c9)
 try have dk0 : (9223372036854775807 < 4 + t104.size + t105.size + t106.size) = False := eq_false (Nat.not_lt.2 (by have h_ := c9; simp only [ByteArray.size_append] at h_; exact h_))
 replace H := L2 H; obtain ⟨t107, aJ, H⟩ := H; have YI := am aJ; clear aJ; by_cases Y7 : ((((⟨#[77, 84, 104, 100]⟩ : ByteArray) ++ t104) ++ t105) ++ t106).size + t107.size ≤ 9223372036854775807; rotate_left
 ·rw [if_neg Y7] at H; exact absurd H (by simp)
 rw [if_pos Y7] at H; have jL := eq_true Y7; have Zv : decide (((((⟨#[77, 84, 104, 100]⟩ : ByteArray) ++ t104) ++ t105) ++ t106).size + t107.size ≤ 9223372036854775807) = true := decide_eq_true Y7; try have fs7 : (9223372036854775807 < ((((⟨#[77, 84, 104, 100]⟩ : ByteArray) ++ t104) ++ t105) ++ t106).size + t107.size) = False := eq_false (Nat.not_lt.2 Y7)
 try have ds7 : (9223372036854775807 < 4 + t104.size + t105.size + t106.size + t107.size) = False := eq_false (Nat.not_lt.2 (by have h_ := Y7; simp only [ByteArray.size_append] at h_; exact h_))
 have H' := am H; clear H; go_enter Try.func29, Try.ntmps29; try go_wp2_with (first | ((with_reducible refine P2 (N := 1) rfl ?_); refine D3 ?hg (N := 1) ?hd (cs := #[.int .i64 I0, .int .i64 C0, .slice Q3 B0.length N3]) (t := 24) ?hr ?_; (case hd => rfl); (case hg => rfl); (case hr => exact Z2); intro n0 hg BH M0 G; have Y := am (M0); have W6 := am ((U2 : w.heap.size ≤ n0)); have H0 := am ((U2 : w.heap.size ≤ n0)); replace I := am (T0 (qB I.out) G); clear G M0 hg; obtain ⟨NQ, sQ, uQ, IP, ZP, GQ⟩ := V2 Y.out) | ((with_reducible refine H2 (f := 28) rfl ?_); refine G2 (some 12) rfl rfl Try.func28 (by kernel_rfl) rfl #[.agg #[.int .i64 I0, .int .i64 C0, .slice Q3 B0.length N3]] rfl F2 ?_; (with_reducible refine (X4.calls k I0 C0 _ _ B0 t102 t103 _ ?side1 ?side2 A2.out).mono ?_); (case side1 => repeat (exact (Kd.cB X6.out I.out))); (case side2 => exact bC.out); rintro e nA ⟨rfl, G⟩; refine ⟨_, rfl, ?_⟩; replace Y := am (O0 (bq Y.out) G); replace I := am (T0 (S0 H0 I.out) G); ))
 replace Y := am (M1 Y.out); replace I := am (G6 I.out); refine hH (n := 16) (S := fun w' => w'.cell? ⟨n0, 0, none⟩ = some (.int .i64 I0) ∧ w'.cell? ⟨n0, 1, none⟩ = some (.int .i64 C0) ∧ w'.cell? ⟨n0, 2, none⟩ = some (.slice Q3 B0.length N3)) (ds := []) #[false, false, false, false, false, false, false, false, false, false, false, false, false, false, false, false] (by kernel_rfl) rfl rfl ⟨(G0 Y.out 0).trans rfl, (G0 Y.out 1).trans rfl, (G0 Y.out 2).trans rfl⟩ (fun G1 => ?_); refine PJ M9.tab4 M9.bits4 (fun B2 fA => ?_); generalize nA.drew = FD at Y I G1 ⊢; refine l2 2 (some 20) (bs 4 16) ?_; refine l2 6 (some 24) (bs 68 16) ?_; refine l2 11 (some 29) (bs 2116 16) ?_; refine take_ (i := 3) (N := some 21) (v := ?_) (a' := ?_) (bs 2124 16) rfl rfl (XC B2.out fA.out (by kernel_rfl)) (fun _ _ _ h => h) (Or.inl ⟨by rfl, ?_⟩) G1 ?_ ?_; rotate_left
 ·rintro w' ⟨s0, s1, s2⟩; go_simp; with_reducible rfl
 rotate_left
 ·simp only [Act.put, List.setIfInBounds_toArray, List.set_cons_zero, List.set_cons_succ, B3, M3]; rfl
 refine take_ (i := 7) (N := some 25) (v := ?_) (a' := ?_) (bs 2252 16) rfl rfl (XC B2.out fA.out (by kernel_rfl)) (fun _ _ _ h => h) (Or.inl ⟨by rfl, ?_⟩) G1 ?_ ?_; rotate_left
 ·rintro w' ⟨s0, s1, s2⟩; go_simp; with_reducible rfl
 rotate_left
 ·simp only [Act.put, List.setIfInBounds_toArray, List.set_cons_zero, List.set_cons_succ, B3, M3]; rfl
 refine l2 8 (some 26) (bs 2508 16) ?_; refine take_ (i := 12) (N := some 30) (v := ?_) (a' := ?_) (bs 6604 16) rfl rfl (XC B2.out fA.out (by kernel_rfl)) (fun _ _ _ h => h) (Or.inl ⟨by rfl, ?_⟩) G1 ?_ ?_; rotate_left
 ·rintro w' ⟨s0, s1, s2⟩; go_simp; with_reducible rfl
 rotate_left
 ·simp only [Act.put, List.setIfInBounds_toArray, List.set_cons_zero, List.set_cons_succ, B3, M3]; rfl
 refine l9 (i := 0) (N := some 18) (bs 6605 16) rfl rfl (U8 B2.out (by kernel_rfl)) (by decide) (fun K hK => ?_); refine p_ Try.func43 (by kernel_rfl) rfl #[.int .i64 6, .int .i64 4] (by rfl) rfl rfl F2 ?_; with_reducible refine (n8.calls k 6 4 t104 _ A4.out).mono ?_
 rintro e b_ ⟨rfl, G⟩; refine ⟨_, rfl, ?_⟩; replace Y := am (O0 (bq Y.out) G); replace I := am (T0 (S0 H0 I.out) G); (try clear G); (try clear C5); (try clear X); (try clear hi); refine hK.out _ _ ⟨(G0 Y.out 0).trans rfl, (G0 Y.out 1).trans rfl, (G0 Y.out 2).trans rfl⟩ (fun G1 => ?_); clear hK K; refine D5 (some 18) ?_; refine l2 1 (some 19) (bs 6607 16) ?_; refine l9 (i := 4) (N := some 22) (bs 6623 16) rfl rfl (U8 B2.out (by kernel_rfl)) (by decide) (fun K hK => ?_); refine p_ Try.func43 (by kernel_rfl) rfl #[.int .i64 I0, .int .i64 2] (by rfl) rfl rfl F2 ?_; with_reducible refine (n8.calls k I0 2 t105 _ A6.out).mono ?_
 rintro e E7 ⟨rfl, G⟩; refine ⟨_, rfl, ?_⟩; replace Y := am (O0 (bq Y.out) G); replace I := am (T0 (S0 H0 I.out) G); (try clear G); (try clear C5); (try clear X); (try clear hi); refine hK.out _ _ ⟨(G0 Y.out 0).trans rfl, (G0 Y.out 1).trans rfl, (G0 Y.out 2).trans rfl⟩ (fun G1 => ?_); clear hK K; refine D5 (some 22) ?_; refine l2 5 (some 23) (bs 6655 16) ?_; refine l9 (i := 9) (N := some 27) (bs 7167 16) rfl rfl (U8 B2.out (by kernel_rfl)) (by decide) (fun K hK => ?_); refine p_ Try.func43 (by kernel_rfl) rfl #[.int .i64 (B0.length : Int), .int .i64 2] (by rfl) rfl rfl F2 ?_; with_reducible refine (n8.calls k (B0.length : Int) 2 t106 _ A8.out).mono ?_
 rintro e IY ⟨rfl, G⟩; refine ⟨_, rfl, ?_⟩; replace Y := am (O0 (bq Y.out) G); replace I := am (T0 (S0 H0 I.out) G); (try clear G); (try clear C5); (try clear X); (try clear hi); refine hK.out _ _ ⟨(G0 Y.out 0).trans rfl, (G0 Y.out 1).trans rfl, (G0 Y.out 2).trans rfl⟩ (fun G1 => ?_); clear hK K; refine D5 (some 27) ?_; refine l2 10 (some 28) (bs 8191 16) ?_; refine l9 (i := 13) (N := some 31) (bs 16383 16) rfl rfl (U8 B2.out (by kernel_rfl)) (by decide) (fun K hK => ?_); refine p_ Try.func43 (by kernel_rfl) rfl #[.int .i64 C0, .int .i64 2] (by rfl) rfl rfl F2 ?_; with_reducible refine (n8.calls k C0 2 t107 _ YI.out).mono ?_
 rintro e R5 ⟨rfl, G⟩; refine ⟨_, rfl, ?_⟩; replace Y := am (O0 (bq Y.out) G); replace I := am (T0 (S0 H0 I.out) G); (try clear G); (try clear C5); (try clear X); (try clear hi); refine hK.out _ _ ⟨(G0 Y.out 0).trans rfl, (G0 Y.out 1).trans rfl, (G0 Y.out 2).trans rfl⟩ (fun G1 => ?_); clear hK K; refine D5 (some 31) ?_; refine l2 14 (some 32) (bs 32767 16) ?_; refine l2 15 (some 6) (bs 65535 16) ?_; refine gH (XJ B2.out (by kernel_rfl)) ?_; try go_wp2
 go_loopg [6, 7] k (fun kq v6 v7 w' => ∃ (F6 : ByteArray) (CC : Int), v6 = .string F6 ∧ v7 = .int .i64 CC ∧ Aside0 (M9.l0 kq F6 CC I0 C0 B0 = some (r1, r2)) ∧ Aside0 (kq ≤ k) ∧ Aside0 (w'.heap[n0]? = some (.cells #[.int .i64 I0, .int .i64 C0, (.slice Q3 B0.length N3)] 24 (0, 0))) ∧ Aside0 (Below w.heap.size w w'))
 case atStart => exact ⟨(((((⟨#[77, 84, 104, 100]⟩ : ByteArray) ++ t104) ++ t105) ++ t106) ++ t107), (0), (by rfl), (by rfl), H', ⟨Nat.le_refl _⟩, ⟨bq Y.out⟩, ⟨S0 H0 I.out⟩⟩
 case round =>
  clear H'; obtain ⟨F6, CC, rfl, rfl, HA, S4, Y, I⟩ := hrel; cases gk with
  | zero => exact absurd HA.out (by simp [M9.l0])
  | succ k1 =>
   have H := HA.out; clear HA; simp only [M9.l0] at H; by_cases K5 : CC < (B0.length : Int); rotate_left
   ·rw [if_neg K5] at H; have qI : decide (CC < (B0.length : Int)) = false := decide_eq_false K5; clear K5; by_cases z9 : (F6.size : Int) > 100000
    ·rw [if_pos z9] at H; have eO : decide (100000 < (F6.size : Int)) = true := decide_eq_true z9; have zW : decide (100000 < F6.size) = true := decide_eq_true (by omega); clear z9; simp only [Option.some.injEq, Prod.mk.injEq] at H; obtain ⟨rfl, rfl⟩ := H; obtain ⟨Yq, Ru, Oy, Jv, Pn, ad0⟩ := V2 Y.out; go_wp2; go_ret2; exact ⟨by rfl, S0 H0 I.out⟩
    rw [if_neg z9] at H; have eO : decide (100000 < (F6.size : Int)) = false := decide_eq_false z9; have zW : decide (100000 < F6.size) = false := decide_eq_false (by omega); clear z9; simp only [Option.some.injEq, Prod.mk.injEq] at H; obtain ⟨rfl, rfl⟩ := H; obtain ⟨Is, Rp, Mz, Co, ad6, Xy⟩ := V2 Y.out; go_wp2; go_ret2; exact ⟨by rfl, S0 H0 I.out⟩
   rw [if_pos K5] at H; have qI : decide (CC < (B0.length : Int)) = true := decide_eq_true K5; clear K5; by_cases q7 : 0 ≤ CC; rotate_left
   ·rw [if_neg q7] at H; exact absurd H (by simp)
   rw [if_pos q7] at H; have WI : decide (0 ≤ CC) = true := decide_eq_true q7; clear q7; replace H := L2 H; obtain ⟨⟨t109, t110⟩, dM, H⟩ := H; have TN := am dM; clear dM; by_cases L5 : F6.size + 4 ≤ 9223372036854775807; rotate_left
   ·rw [if_neg L5] at H; exact absurd H (by simp)
   rw [if_pos L5] at H; have EF := eq_true L5; have iL : decide (F6.size + 4 ≤ 9223372036854775807) = true := decide_eq_true L5; try have ey0 : (9223372036854775807 < F6.size + 4) = False := eq_false (Nat.not_lt.2 L5)
   replace H := L2 H; obtain ⟨t111, Hp, H⟩ := H; have A24 := am Hp; clear Hp; by_cases j5 : (F6 ++ (⟨#[77, 84, 114, 107]⟩ : ByteArray)).size + t111.size ≤ 9223372036854775807; rotate_left
   ·rw [if_neg j5] at H; exact absurd H (by simp)
   rw [if_pos j5] at H; have xE := eq_true j5; have NK : decide ((F6 ++ (⟨#[77, 84, 114, 107]⟩ : ByteArray)).size + t111.size ≤ 9223372036854775807) = true := decide_eq_true j5; try have ex2 : (9223372036854775807 < (F6 ++ (⟨#[77, 84, 114, 107]⟩ : ByteArray)).size + t111.size) = False := eq_false (Nat.not_lt.2 j5)
   try have eo9 : (9223372036854775807 < F6.size + 4 + t111.size) = False := eq_false (Nat.not_lt.2 (by have h_ := j5; simp only [ByteArray.size_append] at h_; exact h_))
   by_cases i6 : ((F6 ++ (⟨#[77, 84, 114, 107]⟩ : ByteArray)) ++ t111).size + t109.size ≤ 9223372036854775807; rotate_left
   ·rw [if_neg i6] at H; exact absurd H (by simp)
   rw [if_pos i6] at H; have JN := eq_true i6; have jQ : decide (((F6 ++ (⟨#[77, 84, 114, 107]⟩ : ByteArray)) ++ t111).size + t109.size ≤ 9223372036854775807) = true := decide_eq_true i6; try have dg0 : (9223372036854775807 < ((F6 ++ (⟨#[77, 84, 114, 107]⟩ : ByteArray)) ++ t111).size + t109.size) = False := eq_false (Nat.not_lt.2 i6)
   try have dv8 : (9223372036854775807 < F6.size + 4 + t111.size + t109.size) = False := eq_false (Nat.not_lt.2 (by have h_ := i6; simp only [ByteArray.size_append] at h_; exact h_))
   have H' := am H; clear H; obtain ⟨Ja, De, Ug, Dd, Cj, Vi⟩ := V2 Y.out; have tC : 0 ≤ (CC : Int) := of_decide_eq_true R1; have sC : CC < (B0.length : Int) := of_decide_eq_true R1; obtain ⟨qK, Lk, Sg, mI, UC, uM, AM⟩ := R9 X6.out CC tC sC; cases mI; replace UC := W0 I.out UC; have FU := am AM; have Li := am uM; clear AM uM; replace tC := eq_true tC; replace sC := eq_true sC; go_wp2_with (first | ((with_reducible refine H2 (f := 44) rfl ?_); refine G2 (some 46) rfl rfl Try.func44 (by kernel_rfl) rfl #[.slice Lk (L0 B0 CC).length Sg] rfl F2 ?_; (with_reducible refine (G3.calls k1 _ _ (L0 B0 CC) t109 t110 _ ?side1 ?side2 TN.out).mono ?_); (case side1 => repeat (exact (Kd.cB FU.out I.out))); (case side2 => exact Li.out); rintro e Oi ⟨rfl, G⟩; refine ⟨_, rfl, ?_⟩; replace Y := am (O0 (bq Y.out) G); replace I := am (T0 (S0 H0 I.out) G); ) | ((with_reducible refine H2 (f := 43) rfl ?_); refine G2 (some 53) rfl rfl Try.func43 (by kernel_rfl) rfl #[.int .i64 (t109.size : Int), .int .i64 4] rfl F2 ?_; (with_reducible refine (n8.calls k1 (t109.size : Int) 4 t111 _ A24.out).mono ?_); rintro e MT ⟨rfl, G⟩; refine ⟨_, rfl, ?_⟩; replace Y := am (O0 (bq Y.out) G); replace I := am (T0 (S0 H0 I.out) G); )); go_roundg k1
   case measure => have := S4.out; omega
   case rel => exact ⟨(((F6 ++ (⟨#[77, 84, 114, 107]⟩ : ByteArray)) ++ t111) ++ t109), (wrap64 (CC + 1)), (by rfl), (by rfl), H', ⟨C_⟩, ⟨bq Y.out⟩, ⟨S0 H0 I.out⟩⟩
def AD.f (k : Nat) (I0 : Int) (C0 : Int) (B0 : List (List (N0))) : Option (Bool) := (H4.f k I0 C0 B0).bind fun z6 => ((X4.f k I0 C0 B0).bind fun t_ => ((Q5.f k I0 C0 B0).bind fun nB => ((M9.f k I0 C0 B0).bind fun N6 => (if z6.1 = t_.1 then (if z6.2 = t_.2 then (if nB.1.toList = N6.1.toList then (some (nB.2 == N6.2)) else (none)) else (none)) else (none)))))
theorem AD.mono : ∀ a0 a1 a2 k, F0 (AD.f k a0 a1 a2) (AD.f (k + 1) a0 a1 a2) := by
 intro a0 a1 a2 k
 unfold AD.f
 repeat' first
  | (with_reducible exact X4.mono _ _ _ _)
  | (with_reducible exact M9.mono _ _ _ _)
  | (with_reducible exact H4.mono _ _ _ _)
  | (with_reducible exact Q5.mono _ _ _ _)
  | (with_reducible exact F0.refl _)
  | (with_reducible exact F0.none _)
  | (with_reducible refine F0.ite ?_ ?_)
  | (with_reducible refine F0.bind ?_ (fun _ => ?_))
  | exact X4.mono _ _ _ _
  | exact M9.mono _ _ _ _
  | exact H4.mono _ _ _ _
  | exact Q5.mono _ _ _ _
  | exact F0.none _
  | refine F0.ite ?_ ?_
  | refine F0.bind ?_ (fun _ => ?_)
set_option maxHeartbeats 8000000 in
set_option maxRecDepth 100000 in
theorem AD.calls (k : Nat) (I0 : Int) (C0 : Int) (Q3 : Option Addr) (N3 : Nat) (B0 : List (List (N0))) (r : Bool) (w : World) (oA : Kd.C (Kd.slice 28 L3) w Q3 B0.length B0) (qA : B0.length ≤ N3) (h : AD.f k I0 C0 B0 = some r) :
 Calls Try.prog 16 #[.agg #[.int .i64 I0, .int .i64 C0, .slice Q3 B0.length N3]] w fun e w' => e = .returned (.bool r) ∧ Below w.heap.size w w' := by
 have OH := Try.underlying24; have X6 := am oA; have bC := am qA; clear oA qA; have I := am (Below.refl w.heap.size w); have H := h; unfold AD.f at H; clear h; replace H := L2 H; obtain ⟨⟨t102, t103⟩, f_, H⟩ := H; try dsimp -simprocs only at H
 have A2 := am f_; clear f_; replace H := L2 H; obtain ⟨⟨t104, t105⟩, Q_, H⟩ := H; try dsimp -simprocs only at H
 have A3 := am Q_; clear Q_; replace H := L2 H; obtain ⟨⟨t106, t107⟩, mA, H⟩ := H; try dsimp -simprocs only at H
 have A4 := am mA; clear mA; replace H := L2 H; obtain ⟨⟨t108, t109⟩, v_, H⟩ := H; try dsimp -simprocs only at H
 have A5 := am v_; clear v_; by_cases c6 : t102 = t104; rotate_left
 ·rw [if_neg c6] at H; exact absurd H (by simp)
 rw [if_pos c6] at H; have cC : (t102 == t104) = true := beq_iff_eq.mpr c6; have CH : (t102 != t104) = false := bne_eq_false_iff_eq.mpr c6; clear c6; by_cases c7 : t103 = t105; rotate_left
 ·rw [if_neg c7] at H; exact absurd H (by simp)
 rw [if_pos c7] at H; have lC : (t103 == t105) = true := beq_iff_eq.mpr c7; have zL : (t103 != t105) = false := bne_eq_false_iff_eq.mpr c7; clear c7; by_cases c8 : t106.toList = t108.toList; rotate_left
 ·rw [if_neg c8] at H; exact absurd H (by simp)
 rw [if_pos c8] at H; have JG : (t106.toList == t108.toList) = true := beq_iff_eq.mpr c8; have GR : (t106.toList != t108.toList) = false := bne_eq_false_iff_eq.mpr c8; clear c8; obtain rfl := Option.some.inj H; go_enter Try.func16, Try.ntmps16; go_wp2_with (first | ((with_reducible refine P2 (N := 1) rfl ?_); refine D3 ?hg (N := 1) ?hd (cs := #[.int .i64 I0, .int .i64 C0, .slice Q3 B0.length N3]) (t := 24) ?hr ?_; (case hd => rfl); (case hg => rfl); (case hr => exact Y9); intro n0 hg w9 M0 G; have Y := am (M0); have W6 := am ((U2 : w.heap.size ≤ n0)); have H0 := am ((U2 : w.heap.size ≤ n0)); replace I := am (T0 (qB I.out) G); clear G M0 hg; obtain ⟨MU, UR, iT, nT, QS, PU⟩ := V2 Y.out) | ((with_reducible refine H2 (f := 24) rfl ?_); refine G2 (some 13) rfl rfl Try.func24 (by kernel_rfl) rfl #[.agg #[.int .i64 I0, .int .i64 C0, .slice Q3 B0.length N3]] rfl L9 ?_; (with_reducible refine (H4.calls k I0 C0 _ _ B0 t102 t103 _ ?side1 ?side2 A2.out).mono ?_); (case side1 => repeat (first | exact (Kd.cB X6.out I.out) | (with_reducible refine Kd.LA ?_ _) | (with_reducible refine Kd.MA ?_ _) | (with_reducible refine Kd.KA ?_))); (case side2 => exact bC.out); rintro e pM ⟨rfl, G⟩; refine ⟨_, rfl, ?_⟩; replace Y := am (O0 (bq Y.out) G); replace I := am (T0 (S0 H0 I.out) G); (try clear G); (try clear C5); (try clear X); (try clear hi); obtain ⟨FM, xL, EL, CL, qM, FL⟩ := V2 Y.out) | ((with_reducible refine H2 (f := 28) rfl ?_); refine G2 (some 18) rfl rfl Try.func28 (by kernel_rfl) rfl #[.agg #[.int .i64 I0, .int .i64 C0, .slice Q3 B0.length N3]] rfl L9 ?_; (with_reducible refine (X4.calls k I0 C0 _ _ B0 t104 t105 _ ?side1 ?side2 A3.out).mono ?_); (case side1 => repeat (first | exact (Kd.cB X6.out I.out) | (with_reducible refine Kd.LA ?_ _) | (with_reducible refine Kd.MA ?_ _) | (with_reducible refine Kd.KA ?_))); (case side2 => exact bC.out); rintro e n7 ⟨rfl, G⟩; refine ⟨_, rfl, ?_⟩; replace Y := am (O0 (bq Y.out) G); replace I := am (T0 (S0 H0 I.out) G); (try clear G); (try clear C5); (try clear X); (try clear hi); obtain ⟨IL, rM, aM, zM, IM, OL⟩ := V2 Y.out) | ((with_reducible refine H2 (f := 15) rfl ?_); refine G2 (some 23) rfl rfl Try.func15 (by kernel_rfl) rfl #[.agg #[.int .i64 I0, .int .i64 C0, .slice Q3 B0.length N3]] rfl L9 ?_; (with_reducible refine (Q5.calls k I0 C0 _ _ B0 t106 t107 _ ?side1 ?side2 A4.out).mono ?_); (case side1 => repeat (first | exact (Kd.cB X6.out I.out) | (with_reducible refine Kd.LA ?_ _) | (with_reducible refine Kd.MA ?_ _) | (with_reducible refine Kd.KA ?_))); (case side2 => exact bC.out); rintro e FD ⟨rfl, G⟩; refine ⟨_, rfl, ?_⟩; replace Y := am (O0 (bq Y.out) G); replace I := am (T0 (S0 H0 I.out) G); (try clear G); (try clear C5); (try clear X); (try clear hi); obtain ⟨dL, oK, IK, AK, mL, dK⟩ := V2 Y.out) | ((with_reducible refine H2 (f := 29) rfl ?_); refine G2 (some 28) rfl rfl Try.func29 (by kernel_rfl) rfl #[.agg #[.int .i64 I0, .int .i64 C0, .slice Q3 B0.length N3]] rfl L9 ?_; (with_reducible refine (M9.calls k I0 C0 _ _ B0 t108 t109 _ ?side1 ?side2 A5.out).mono ?_); (case side1 => repeat (first | exact (Kd.cB X6.out I.out) | (with_reducible refine Kd.LA ?_ _) | (with_reducible refine Kd.MA ?_ _) | (with_reducible refine Kd.KA ?_))); (case side2 => exact bC.out); rintro e E7 ⟨rfl, G⟩; refine ⟨_, rfl, ?_⟩; replace Y := am (O0 (bq Y.out) G); replace I := am (T0 (S0 H0 I.out) G); (try clear G); (try clear C5); (try clear X); (try clear hi))); go_ret; exact ⟨L_, S0 H0 I.out⟩
mutual
def I2.l0 : Nat → Int → Int → Int → List (List (N0)) → Int → Int → List (List (N0)) → Option (Int × Int × (List (List (N0))))
 | 0, _, _, _, _, _, _, _ => none
 | k + 1, x4, H5, W3, T2, lL, ZK, RI => if x4 < (T2.length : Int) then (I2.j1 k x4 (decide (x4 < 20)) H5 W3 T2 lL ZK RI) else (I2.j1 k x4 false H5 W3 T2 lL ZK RI)
def I2.j1 : Nat → Int → Bool → Int → Int → List (List (N0)) → Int → Int → List (List (N0)) → Option (Int × Int × (List (List (N0))))
 | 0, _, _, _, _, _, _, _, _ => none
 | k + 1, x4, x21, H5, W3, T2, lL, ZK, RI => if x21 = true then (I2.l1 k x4 ([] : List (N0)) 0 H5 W3 T2 lL ZK RI) else (some (lL, ZK, RI))
def I2.l1 : Nat → Int → List (N0) → Int → Int → Int → List (List (N0)) → Int → Int → List (List (N0)) → Option (Int × Int × (List (List (N0))))
 | 0, _, _, _, _, _, _, _, _, _ => none
 | k + 1, x4, x5, x6, H5, W3, T2, lL, ZK, RI => if 0 ≤ x4 then (if x4 < (T2.length : Int) then (if x6 < ((L0 T2 x4).length : Int) then (if x6 < 40 then (if 0 ≤ x6 then (if 0 ≤ (mn (((U (L0 T2 x4) x6).f5).size : Int) 300) then (if (mn (((U (L0 T2 x4) x6).f5).size : Int) 300) ≤ (((U (L0 T2 x4) x6).f5).size : Int) then (if x5.length < 2513169434916 then (I2.l1 k x4 (x5 ++ [(⟨(U (L0 T2 x4) x6).f0, (U (L0 T2 x4) x6).f1, (U (L0 T2 x4) x6).f2, (U (L0 T2 x4) x6).f3, (U (L0 T2 x4) x6).f4, ((U (L0 T2 x4) x6).f5).extract 0 ((mn (((U (L0 T2 x4) x6).f5).size : Int) 300) : Int).toNat⟩ : N0)]) (wrap64 (x6 + 1)) H5 W3 T2 lL ZK RI) else (none)) else (none)) else (none)) else (none)) else (if RI.length < 5864062014805 then (I2.l0 k (wrap64 (x4 + 1)) H5 W3 T2 lL ZK (RI ++ [x5])) else (none))) else (if RI.length < 5864062014805 then (I2.l0 k (wrap64 (x4 + 1)) H5 W3 T2 lL ZK (RI ++ [x5])) else (none))) else (none)) else (none)
end
def I2.f (k : Nat) (I0 : Int) (C0 : Int) (B0 : List (List (N0))) : Option (Int × Int × (List (List (N0)))) := I2.l0 k 0 I0 C0 B0 I0 C0 ([] : List (List (N0)))
theorem I2.mono_l : ∀ k, (∀ y0 y1 y2 y3 y4 y5 y6, F0 (I2.l0 k y0 y1 y2 y3 y4 y5 y6) (I2.l0 (k + 1) y0 y1 y2 y3 y4 y5 y6)) ∧ (∀ y0 y1 y2 y3 y4 y5 y6 y7, F0 (I2.j1 k y0 y1 y2 y3 y4 y5 y6 y7) (I2.j1 (k + 1) y0 y1 y2 y3 y4 y5 y6 y7)) ∧ (∀ y0 y1 y2 y3 y4 y5 y6 y7 y8, F0 (I2.l1 k y0 y1 y2 y3 y4 y5 y6 y7 y8) (I2.l1 (k + 1) y0 y1 y2 y3 y4 y5 y6 y7 y8))
 | 0 => ⟨fun _ _ _ _ _ _ _ r h => by simp [I2.l0] at h, fun _ _ _ _ _ _ _ _ r h => by simp [I2.j1] at h, fun _ _ _ _ _ _ _ _ _ r h => by simp [I2.l1] at h⟩
 | k + 1 => by
  obtain ⟨O2, Z5, rC⟩ := I2.mono_l k
  refine ⟨?_, ?_, ?_⟩
  ·intro y0 y1 y2 y3 y4 y5 y6
   unfold I2.l0
   repeat' with_reducible first
    | apply Z5
    | refine F0.ite ?_ ?_
  ·intro y0 y1 y2 y3 y4 y5 y6 y7
   unfold I2.j1
   repeat' with_reducible first
    | apply rC
    | apply F0.refl
    | refine F0.ite ?_ ?_
  ·intro y0 y1 y2 y3 y4 y5 y6 y7 y8
   unfold I2.l1
   repeat' with_reducible first
    | apply O2
    | apply rC
    | apply F0.refl
    | refine F0.ite ?_ ?_
theorem I2.mono : ∀ a0 a1 a2 k, F0 (I2.f k a0 a1 a2) (I2.f (k + 1) a0 a1 a2) := by
 intro a0 a1 a2 k
 obtain ⟨O2, Z5, rC⟩ := I2.mono_l k
 unfold I2.f
 repeat' with_reducible first
  | apply O2
set_option maxHeartbeats 80000000 in
set_option maxRecDepth 100000 in
theorem I2.calls (k : Nat) (I0 : Int) (C0 : Int) (Q3 : Option Addr) (N3 : Nat) (B0 : List (List (N0))) (r1 : Int) (r2 : Int) (r3 : List (List (N0))) (w : World) (oA : Kd.C (Kd.slice 28 L3) w Q3 B0.length B0) (qA : B0.length ≤ N3) (h : I2.f k I0 C0 B0 = some (r1, r2, r3)) :
 Calls Try.prog 17 #[.agg #[.int .i64 I0, .int .i64 C0, .slice Q3 B0.length N3]] w fun e w' => ∃ mG : Value, e = .returned (.agg #[.int .i64 r1, .int .i64 r2, mG]) ∧ Kd.S (Kd.slice 28 L3) 30 w' w.heap.size (fun _ => True) mG r3 ∧ Below w.heap.size w w' := by
 have OH := Try.underlying24; have WB := Try.underlying28; have X6 := am oA; have bC := am qA; clear oA qA; have I := am (Below.refl w.heap.size w); have H := h; unfold I2.f at H; clear h; have H' := am H; clear H; go_enter Try.func17, Try.ntmps17; go_wp2_with (first | ((with_reducible refine P2 (N := 1) rfl ?_); refine D3 ?hg (N := 1) ?hd (cs := #[.int .i64 I0, .int .i64 C0, .slice Q3 B0.length N3]) (t := 24) ?hr ?_; (case hd => rfl); (case hg => rfl); (case hr => exact Z2); intro n0 hg w2 M0 G; have Y := am (M0); have W6 := am ((U2 : w.heap.size ≤ n0)); have H0 := am ((U2 : w.heap.size ≤ n0)); replace I := am (T0 (qB I.out) G); clear G M0 hg) | ((with_reducible refine P2 (N := 2) rfl ?_); refine D3 ?hg (N := 2) ?hd (cs := #[.int .i64 0, .int .i64 0, .slice none 0 0]) (t := 24) ?hr ?_; (case hd => rfl); (case hg => rfl); (case hr => exact Z2); intro K0 hg w3 M0 G; have o0 := am (M0); have YA := am ((J7 : w.heap.size ≤ K0)); have Q0 := am ((J7 : w.heap.size ≤ K0)); replace I := am (T0 (S0 H0 I.out) G); have X5 := am ((V7 : n0 ≠ K0)); have l5 := am ((X7 : K0 ≠ n0)); replace Y := am (O0 (bq Y.out) G); clear G M0 hg; have fn7 := X5.out; have df5 := l5.out; obtain ⟨wL, EM, sM, LL, BM, lM⟩ := V2 Y.out) | ((with_reducible refine P2 (N := 3) rfl ?_); refine D3 ?hg (N := 3) ?hd (cs := #[.int .i64 0, .int .i64 0, .slice none 0 0]) (t := 24) ?hr ?_; (case hd => rfl); (case hg => rfl); (case hr => exact Z2); intro wF hg w6 M0 G; have Z9 := am (M0); have eb5 := am ((NA : w.heap.size ≤ wF)); have QD := am ((NA : w.heap.size ≤ wF)); replace I := am (T0 (X2 H0 Q0 I.out) G); have uH := am ((V7 : n0 ≠ wF)); have zN := am ((X7 : wF ≠ n0)); replace Y := am (O0 (bq Y.out) G); have ZJ := am ((LF : K0 ≠ wF)); have rW := am ((KF : wF ≠ K0)); replace o0 := am (O0 (bq o0.out) G); clear G M0 hg; have ey4 := zN.out; have et8 := uH.out; have Gw := rW.out; have Do := ZJ.out; obtain ⟨mJ, IJ, CJ, GJ, zJ, DJ⟩ := V2 Z9.out)); go_loopg [4] k (fun kq v4 w' => ∃ (V0 : Int) (pD : List (List (N0))) (u104002 : Value), v4 = .int .i64 V0 ∧ Aside0 (I2.l0 kq V0 I0 C0 B0 I0 C0 pD = some (r1, r2, r3)) ∧ Aside0 (kq ≤ k) ∧ Aside0 (Kd.S (Kd.slice 28 L3) 30 w' w.heap.size (fun _ => True) u104002 pD) ∧ Aside0 (w'.heap[n0]? = some (.cells #[.int .i64 I0, .int .i64 C0, (.slice Q3 B0.length N3)] 24 (0, 0))) ∧ Aside0 (w'.heap[K0]? = some (.cells #[.int .i64 0, .int .i64 0, (.slice none 0 0)] 24 (0, 0))) ∧ Aside0 (w'.heap[wF]? = some (.cells #[.int .i64 I0, .int .i64 C0, u104002] 24 (0, 0))) ∧ Aside0 (Below w.heap.size w w'))
 case atStart => exact ⟨(0), (([] : List (List (N0)))), (.slice none 0 0), (by rfl), H', ⟨Nat.le_refl _⟩, ⟨YM⟩, ⟨by (with_reducible repeat (first | refine V1 ?_ _ | refine M1 ?_ | refine I1 ?_ _)); refine P0 ?_ uH.out _; (with_reducible repeat (first | refine V1 ?_ _ | refine M1 ?_ | refine I1 ?_ _)); refine P0 ?_ uH.out _; (with_reducible repeat (first | refine V1 ?_ _ | refine M1 ?_ | refine I1 ?_ _)); refine P0 ?_ uH.out _; (with_reducible repeat (first | refine V1 ?_ _ | refine M1 ?_ | refine I1 ?_ _)); exact Y.out⟩, ⟨by (with_reducible repeat (first | refine V1 ?_ _ | refine M1 ?_ | refine I1 ?_ _)); refine P0 ?_ ZJ.out _; (with_reducible repeat (first | refine V1 ?_ _ | refine M1 ?_ | refine I1 ?_ _)); refine P0 ?_ ZJ.out _; (with_reducible repeat (first | refine V1 ?_ _ | refine M1 ?_ | refine I1 ?_ _)); refine P0 ?_ ZJ.out _; (with_reducible repeat (first | refine V1 ?_ _ | refine M1 ?_ | refine I1 ?_ _)); exact o0.out⟩, ⟨by (with_reducible repeat (first | refine V1 ?_ _ | refine M1 ?_ | refine I1 ?_ _)); refine J0 (cs := #[.int .i64 I0, .int .i64 C0, .slice none 0 0]) ?_ 2 _ rfl; (with_reducible repeat (first | refine V1 ?_ _ | refine M1 ?_ | refine I1 ?_ _)); refine J0 (cs := #[.int .i64 I0, .int .i64 0, .slice none 0 0]) ?_ 1 _ rfl; (with_reducible repeat (first | refine V1 ?_ _ | refine M1 ?_ | refine I1 ?_ _)); refine J0 (cs := #[.int .i64 0, .int .i64 0, .slice none 0 0]) ?_ 0 _ rfl; (with_reducible repeat (first | refine V1 ?_ _ | refine M1 ?_ | refine I1 ?_ _)); exact Z9.out⟩, ⟨D2 H0 Q0 QD I.out⟩⟩
 case round =>
  clear H'; obtain ⟨V0, pD, u104002, rfl, HA, S4, bB, Y, o0, Z9, I⟩ := hrel; cases gk with
  | zero => exact absurd HA.out (by simp [I2.l0])
  | succ k1 =>
   have H := HA.out; clear HA; simp only [I2.l0] at H; have Mc := am H; clear H; go_upto_region 3 with (fail)
   go_cut [21] (fun v21 wc => ∃ (kq : Nat) (AY : Bool), v21 = .bool AY ∧ Aside0 (I2.j1 kq V0 AY I0 C0 B0 I0 C0 pD = some (r1, r2, r3)) ∧ Aside0 (kq ≤ k1) ∧ Aside0 (Kd.S (Kd.slice 28 L3) 30 wc w.heap.size (fun _ => True) u104002 pD) ∧ Aside0 (wc.heap[n0]? = some (.cells #[.int .i64 I0, .int .i64 C0, (.slice Q3 B0.length N3)] 24 (0, 0))) ∧ Aside0 (wc.heap[K0]? = some (.cells #[.int .i64 0, .int .i64 0, (.slice none 0 0)] 24 (0, 0))) ∧ Aside0 (wc.heap[wF]? = some (.cells #[.int .i64 I0, .int .i64 C0, u104002] 24 (0, 0))) ∧ Aside0 (Below w.heap.size w wc))
   case first =>
    have H := Mc.out; clear Mc; by_cases Y7 : V0 < (B0.length : Int)
    ·rw [if_pos Y7] at H; have jL : decide (V0 < (B0.length : Int)) = true := decide_eq_true Y7; clear Y7; have H' := am H; clear H; have fh0 := X5.out; have dd1 := l5.out; have Sn := uH.out; have Gz := zN.out; obtain ⟨IL, rM, aM, zM, IM, OL⟩ := V2 Y.out; go_wp2; go_meet
     case rel => exact ⟨_, (decide (V0 < 20)), (by rfl), H', ⟨C_⟩, ⟨qS bB.out⟩, ⟨bq Y.out⟩, ⟨bq o0.out⟩, ⟨bq Z9.out⟩, ⟨D2 H0 Q0 QD I.out⟩⟩
    rw [if_neg Y7] at H; have jL : decide (V0 < (B0.length : Int)) = false := decide_eq_false Y7; clear Y7; have H' := am H; clear H; have bq0 := X5.out; have ce1 := l5.out; have Lw := uH.out; have Rs := zN.out; obtain ⟨Dh, Nc, Je, Md, Eb, Jd⟩ := V2 Y.out; go_wp2; go_meet
    case rel => exact ⟨_, (false), (by rfl), H', ⟨C_⟩, ⟨qS bB.out⟩, ⟨bq Y.out⟩, ⟨bq o0.out⟩, ⟨bq Z9.out⟩, ⟨D2 H0 Q0 QD I.out⟩⟩
   case rest =>
    clear Mc; obtain ⟨kq, AY, rfl, HA, XW, bB, Y, o0, Z9, I⟩ := hcut; cases kq with
    | zero => exact absurd HA.out (by simp [I2.j1])
    | succ Nb =>
     have H := HA.out; clear HA; simp only [I2.j1] at H; by_cases M7 : AY = true; rotate_left
     ·replace M7 := Bool.eq_false_iff.mpr M7; subst M7; have H1 : (some (I0, C0, pD)) = some (r1, r2, r3) := by rw [if_neg (show ¬ (false = true) by decide)] at H; exact H
      clear H; have H := H1; clear H1; simp only [Option.some.injEq, Prod.mk.injEq] at H; obtain ⟨rfl, rfl, rfl⟩ := H; have Px := zN.out; have Gs := uH.out; have Pr := rW.out; have To := ZJ.out; obtain ⟨ZU, GU, QU, VS, IU, iS⟩ := V2 Z9.out; have Gr := l5.out; have ad5 := X5.out; obtain ⟨ac4, Er, Xs, Cy, Uo, On⟩ := V2 o0.out; obtain ⟨pS, xS, Mh⟩ := Kd.iJ bB.out; subst Mh; go_wp2; refine bodyPost_ret (results_cell_row rfl _ _ K0 24 #[.int .i64 I0, .int .i64 C0, .slice pS pD.length xS] (0, 0) _ rfl (by refine bq ?_; refine J0 (cs := #[.int .i64 I0, .int .i64 C0, .slice none 0 0]) ?_ 2 _ rfl; refine bq ?_; refine J0 (cs := #[.int .i64 I0, .int .i64 0, .slice none 0 0]) ?_ 1 _ rfl; refine bq ?_; refine J0 (cs := #[.int .i64 0, .int .i64 0, .slice none 0 0]) ?_ 0 _ rfl; exact bq o0.out) Try.underlying24 rfl (by kernel_rfl)) rfl ?_; exact ⟨_, by rfl, by (with_reducible repeat (first | apply Kd.WH | apply Kd.gI | apply Kd.OF)); exact Kd.kD (Kd.yB (p := ⟨K0, 2, none⟩) (Kd.yB (p := ⟨K0, 1, none⟩) (Kd.yB (p := ⟨K0, 0, none⟩) (Kd.NJ bB.out o0.out (by decide)) (fun _ X => X.2) (.int .i64 I0)) (fun _ X => X.2) (.int .i64 C0)) (fun _ X => X.2) (.slice pS pD.length xS)) (fun _ X => trivial), D2 H0 Q0 QD I.out⟩
     subst M7; have H1 : (I2.l1 Nb V0 ([] : List (N0)) 0 I0 C0 B0 I0 C0 pD) = some (r1, r2, r3) := by rw [if_pos rfl] at H; exact H
     clear H; have H := H1; clear H1; have H' := am H; clear H; go_wp2; go_loopg [5, 6] Nb (fun kq v5 v6 w' => ∃ (GB : List (N0)) (U0 : Int), v6 = .int .i64 U0 ∧ Aside0 (I2.l1 kq V0 GB U0 I0 C0 B0 I0 C0 pD = some (r1, r2, r3)) ∧ Aside0 (kq ≤ Nb) ∧ Aside0 (Kd.R L3 28 w' w.heap.size (fun _ => True) v5 GB) ∧ Aside0 (Kd.S (Kd.slice 28 L3) 30 w' w.heap.size (fun k_ => some k_ ≠ (v5 : Value).ownBlock) u104002 pD) ∧ Aside0 (w'.heap[n0]? = some (.cells #[.int .i64 I0, .int .i64 C0, (.slice Q3 B0.length N3)] 24 (0, 0))) ∧ Aside0 (w'.heap[K0]? = some (.cells #[.int .i64 0, .int .i64 0, (.slice none 0 0)] 24 (0, 0))) ∧ Aside0 (w'.heap[wF]? = some (.cells #[.int .i64 I0, .int .i64 C0, u104002] 24 (0, 0))) ∧ Aside0 (Below w.heap.size w w'))
     case atStart => exact ⟨(([] : List (N0))), (0), (by rfl), H', ⟨Nat.le_refl _⟩, ⟨by exact Kd.fI _ _ _ _ _⟩, ⟨by (with_reducible repeat (first | apply Kd.WH | apply Kd.gI | apply Kd.OF)); exact Kd.kD bB.out (fun _ X => (by simp [Value.ownBlock]))⟩, ⟨bq Y.out⟩, ⟨bq o0.out⟩, ⟨bq Z9.out⟩, ⟨D2 H0 Q0 QD I.out⟩⟩
     case round =>
      clear H'; obtain ⟨GB, U0, rfl, HA, KC, V5, bB, Y, o0, Z9, I⟩ := hrel; cases gk with
      | zero => exact absurd HA.out (by simp [I2.l1])
      | succ k3 =>
       have H := HA.out; clear HA; simp only [I2.l1] at H; by_cases N8 : 0 ≤ V0; rotate_left
       ·rw [if_neg N8] at H; exact absurd H (by simp)
       rw [if_pos N8] at H; have RL : decide (0 ≤ V0) = true := decide_eq_true N8; clear N8; by_cases K5 : V0 < (B0.length : Int); rotate_left
       ·rw [if_neg K5] at H; exact absurd H (by simp)
       rw [if_pos K5] at H; have qI : decide (V0 < (B0.length : Int)) = true := decide_eq_true K5; clear K5; by_cases q7 : U0 < ((L0 B0 V0).length : Int); rotate_left
       ·rw [if_neg q7] at H; have WI : decide (U0 < ((L0 B0 V0).length : Int)) = false := decide_eq_false q7; clear q7; by_cases oX : pD.length < 5864062014805; rotate_left
        ·rw [if_neg oX] at H; exact absurd H (by simp)
        rw [if_pos oX] at H; have bn8 := am oX; clear oX; obtain ⟨QG, II⟩ : ∃ y_ : List (List (N0)), y_ = (pD ++ [GB]) := ⟨_, rfl⟩
        replace H : (I2.l0 k3 (wrap64 (V0 + 1)) I0 C0 B0 I0 C0 QG) = some (r1, r2, r3) := by (rw [II]; with_reducible exact H)
        have iQ := am II; clear II; have H' := am H; clear H; have Au := X5.out; have Zp := l5.out; have Zo := uH.out; have Ax := zN.out; obtain ⟨Fi, Rh, Qa, Vd, Tj, Xd⟩ := V2 Y.out; have SA : 0 ≤ (V0 : Int) := of_decide_eq_true R1; have XA : V0 < (B0.length : Int) := of_decide_eq_true R1; obtain ⟨FH, FV, vW, TG, NC, nG, pG⟩ := R9 X6.out V0 SA XA; cases TG; replace NC := W0 I.out NC; have EW := am pG; have JY := am nG; clear pG nG; replace SA := eq_true SA; replace XA := eq_true XA; have fb9 := rW.out; have ek0 := ZJ.out; obtain ⟨fp3, db5, fr5, eq7, du1, dx5⟩ := V2 Z9.out; obtain ⟨yY, HX, Hg⟩ := Kd.Q9 V5.out; subst Hg; go_wp2_with (((with_reducible refine O_ (b := .append) (xs := #[.tmp 59, .tmp 61]) rfl ?_); at_builtin; refine Kd.wZ (Kd.slice 28 L3) (w0 := w) w.heap.size rfl (.tmp 59) (.tmp 61) 22 30 (.slice none 0 0) 24 rfl Try.underlying22 zV rfl (by decide) (by omega) u104002 pD GB [.slice yY GB.length HX] (fun _ => True) (fun k_ => some k_ = (.slice yY GB.length HX : Value).ownBlock) rfl rfl ?aP (fun k_ n4 => ((Kd.Y5 (ok' := fun k_ => ((fun _ => True)) k_ ∧ some k_ ≠ (u104002 : Value).ownBlock) (Kd.RB (V5.out) (Kd.cP bB.out) (by decide)) (fun k_ X => ⟨trivial, X.2⟩))).1 k_ n4.symm) ?aF ?aO ?aB ?aS ?aL ?_; (case aP => exact ag0); (case aB => exact (D2 H0 Q0 QD I.out)); (case aF => exact (fun _ _ => trivial)); (case aO => exact an6); (case aS => exact (S3 (D2 H0 Q0 QD I.out))); (case aL => have := bn8.out; omega); intro VR Qd ho G hg O1; rw [← iQ.out] at ho; replace Y := am (U6 (bq Y.out) hg (Kd.dI bB.out Y.out (by decide))); replace o0 := am (U6 (bq o0.out) hg (Kd.dI bB.out o0.out (by decide))); replace Z9 := am (U6 (bq Z9.out) hg (Kd.dI bB.out Z9.out (by decide))); replace I := am (G); have n5 := am (ho); clear bB V5; clear ho G hg O1; obtain ⟨Vy, ac0, bn7⟩ := Kd.iJ n5.out; subst bn7; obtain ⟨bd1, ck6, bj5, cf2, ce3, bm0⟩ := V2 Z9.out)); go_roundg k3
        case measure => have := S4.out; have := XW.out; have := KC.out; omega
        case rel => exact ⟨(wrap64 (V0 + 1)), (QG), (.slice Vy QG.length ac0), (by rfl), H', ⟨Jl⟩, ⟨by (with_reducible repeat (first | apply Kd.WH | apply Kd.gI | apply Kd.OF)); exact Kd.kD (Kd.yB (p := ⟨wF, 2, none⟩) (Kd.NJ n5.out Z9.out (by decide)) (fun _ X => X.2) (.slice Vy QG.length ac0)) (fun _ X => trivial)⟩, ⟨by (with_reducible repeat (first | refine V1 ?_ _ | refine M1 ?_ | refine I1 ?_ _)); refine P0 ?_ uH.out _; (with_reducible repeat (first | refine V1 ?_ _ | refine M1 ?_ | refine I1 ?_ _)); exact Y.out⟩, ⟨by (with_reducible repeat (first | refine V1 ?_ _ | refine M1 ?_ | refine I1 ?_ _)); refine P0 ?_ ZJ.out _; (with_reducible repeat (first | refine V1 ?_ _ | refine M1 ?_ | refine I1 ?_ _)); exact o0.out⟩, ⟨by (with_reducible repeat (first | refine V1 ?_ _ | refine M1 ?_ | refine I1 ?_ _)); refine J0 (cs := #[.int .i64 I0, .int .i64 C0, u104002]) ?_ 2 _ rfl; (with_reducible repeat (first | refine V1 ?_ _ | refine M1 ?_ | refine I1 ?_ _)); exact Z9.out⟩, ⟨D2 H0 Q0 QD I.out⟩⟩
       rw [if_pos q7] at H; have WI : decide (U0 < ((L0 B0 V0).length : Int)) = true := decide_eq_true q7; clear q7; by_cases P5 : U0 < 40; rotate_left
       ·rw [if_neg P5] at H; have RG : decide (U0 < 40) = false := decide_eq_false P5; clear P5; by_cases rF : pD.length < 5864062014805; rotate_left
        ·rw [if_neg rF] at H; exact absurd H (by simp)
        rw [if_pos rF] at H; have ba3 := am rF; clear rF; obtain ⟨ID, OI⟩ : ∃ y_ : List (List (N0)), y_ = (pD ++ [GB]) := ⟨_, rfl⟩
        replace H : (I2.l0 k3 (wrap64 (V0 + 1)) I0 C0 B0 I0 C0 ID) = some (r1, r2, r3) := by (rw [OI]; with_reducible exact H)
        have CN := am OI; clear OI; have H' := am H; clear H; have ad8 := X5.out; have Lt := l5.out; have Iq := uH.out; have ad9 := zN.out; obtain ⟨NX, mW, JW, aW, oY, YW⟩ := V2 Y.out; have SA : 0 ≤ (V0 : Int) := of_decide_eq_true R1; have XA : V0 < (B0.length : Int) := of_decide_eq_true R1; obtain ⟨FH, FV, vW, TG, NC, nG, pG⟩ := R9 X6.out V0 SA XA; cases TG; replace NC := W0 I.out NC; have EW := am pG; have JY := am nG; clear pG nG; replace SA := eq_true SA; replace XA := eq_true XA; have dt0 := rW.out; have ed2 := ZJ.out; obtain ⟨Cb, Va, Ek, Jg, Ej, Pj⟩ := V2 Z9.out; obtain ⟨Xw, ad4, bm3⟩ := Kd.Q9 V5.out; subst bm3; go_wp2_with (((with_reducible refine O_ (b := .append) (xs := #[.tmp 59, .tmp 61]) rfl ?_); at_builtin; refine Kd.wZ (Kd.slice 28 L3) (w0 := w) w.heap.size rfl (.tmp 59) (.tmp 61) 22 30 (.slice none 0 0) 24 rfl Try.underlying22 zV rfl (by decide) (by omega) u104002 pD GB [.slice Xw GB.length ad4] (fun _ => True) (fun k_ => some k_ = (.slice Xw GB.length ad4 : Value).ownBlock) rfl rfl ?aP (fun k_ n4 => ((Kd.Y5 (ok' := fun k_ => ((fun _ => True)) k_ ∧ some k_ ≠ (u104002 : Value).ownBlock) (Kd.RB (V5.out) (Kd.cP bB.out) (by decide)) (fun k_ X => ⟨trivial, X.2⟩))).1 k_ n4.symm) ?aF ?aO ?aB ?aS ?aL ?_; (case aP => exact ag0); (case aB => exact (D2 H0 Q0 QD I.out)); (case aF => exact (fun _ _ => trivial)); (case aO => exact an6); (case aS => exact (S3 (D2 H0 Q0 QD I.out))); (case aL => have := ba3.out; omega); intro GX Yf ho G hg O1; rw [← CN.out] at ho; replace Y := am (U6 (bq Y.out) hg (Kd.dI bB.out Y.out (by decide))); replace o0 := am (U6 (bq o0.out) hg (Kd.dI bB.out o0.out (by decide))); replace Z9 := am (U6 (bq Z9.out) hg (Kd.dI bB.out Z9.out (by decide))); replace I := am (G); have QC := am (ho); clear bB V5; clear ho G hg O1; obtain ⟨Dx, Ts, bk2⟩ := Kd.iJ QC.out; subst bk2; obtain ⟨TZ, Zd, Oc, Nd, Me, Vb⟩ := V2 Z9.out)); go_roundg k3
        case measure => have := S4.out; have := XW.out; have := KC.out; omega
        case rel => exact ⟨(wrap64 (V0 + 1)), (ID), (.slice Dx ID.length Ts), (by rfl), H', ⟨Jl⟩, ⟨by (with_reducible repeat (first | apply Kd.WH | apply Kd.gI | apply Kd.OF)); exact Kd.kD (Kd.yB (p := ⟨wF, 2, none⟩) (Kd.NJ QC.out Z9.out (by decide)) (fun _ X => X.2) (.slice Dx ID.length Ts)) (fun _ X => trivial)⟩, ⟨by (with_reducible repeat (first | refine V1 ?_ _ | refine M1 ?_ | refine I1 ?_ _)); refine P0 ?_ uH.out _; (with_reducible repeat (first | refine V1 ?_ _ | refine M1 ?_ | refine I1 ?_ _)); exact Y.out⟩, ⟨by (with_reducible repeat (first | refine V1 ?_ _ | refine M1 ?_ | refine I1 ?_ _)); refine P0 ?_ ZJ.out _; (with_reducible repeat (first | refine V1 ?_ _ | refine M1 ?_ | refine I1 ?_ _)); exact o0.out⟩, ⟨by (with_reducible repeat (first | refine V1 ?_ _ | refine M1 ?_ | refine I1 ?_ _)); refine J0 (cs := #[.int .i64 I0, .int .i64 C0, u104002]) ?_ 2 _ rfl; (with_reducible repeat (first | refine V1 ?_ _ | refine M1 ?_ | refine I1 ?_ _)); exact Z9.out⟩, ⟨D2 H0 Q0 QD I.out⟩⟩
       rw [if_pos P5] at H; have RG : decide (U0 < 40) = true := decide_eq_true P5; clear P5; by_cases L5 : 0 ≤ U0; rotate_left
       ·rw [if_neg L5] at H; exact absurd H (by simp)
       rw [if_pos L5] at H; have EF : decide (0 ≤ U0) = true := decide_eq_true L5; clear L5; obtain ⟨XE, Mo⟩ : ∃ j_ : Int, (mn (((U (L0 B0 V0) U0).f5).size : Int) 300) = j_ := ⟨_, rfl⟩
       replace H : (if 0 ≤ (XE) then (if (XE) ≤ (((U (L0 B0 V0) U0).f5).size : Int) then (if GB.length < 2513169434916 then (I2.l1 k3 V0 (GB ++ [(⟨(U (L0 B0 V0) U0).f0, (U (L0 B0 V0) U0).f1, (U (L0 B0 V0) U0).f2, (U (L0 B0 V0) U0).f3, (U (L0 B0 V0) U0).f4, ((U (L0 B0 V0) U0).f5).extract 0 ((XE) : Int).toNat⟩ : N0)]) (wrap64 (U0 + 1)) I0 C0 B0 I0 C0 pD) else (none)) else (none)) else (none)) = some (r1, r2, r3) := by (rw [Mo] at H; exact H)
       have ez2 : (if 300 < (((U (L0 B0 V0) U0).f5).size : Int) then 300 else (((U (L0 B0 V0) U0).f5).size : Int)) = XE := Mo; by_cases j5 : 0 ≤ (XE); rotate_left
       ·rw [if_neg j5] at H; exact absurd H (by simp)
       rw [if_pos j5] at H; have xE := eq_true j5; have NK : decide (0 ≤ (XE)) = true := decide_eq_true j5; clear j5; by_cases i6 : (XE) ≤ (((U (L0 B0 V0) U0).f5).size : Int); rotate_left
       ·rw [if_neg i6] at H; exact absurd H (by simp)
       rw [if_pos i6] at H; have JN := eq_true i6; have jQ : decide ((XE) ≤ (((U (L0 B0 V0) U0).f5).size : Int)) = true := decide_eq_true i6; clear i6; by_cases Q6 : GB.length < 2513169434916; rotate_left
       ·rw [if_neg Q6] at H; exact absurd H (by simp)
       rw [if_pos Q6] at H; have Ab := am Q6; clear Q6; obtain ⟨Ir, Te⟩ : ∃ y_ : List (N0), y_ = (GB ++ [(⟨(U (L0 B0 V0) U0).f0, (U (L0 B0 V0) U0).f1, (U (L0 B0 V0) U0).f2, (U (L0 B0 V0) U0).f3, (U (L0 B0 V0) U0).f4, ((U (L0 B0 V0) U0).f5).extract 0 ((XE) : Int).toNat⟩ : N0)]) := ⟨_, rfl⟩
       replace H : (I2.l1 k3 V0 Ir (wrap64 (U0 + 1)) I0 C0 B0 I0 C0 pD) = some (r1, r2, r3) := by (rw [Te]; with_reducible exact H)
       have ax0 := am Te; clear Te; have H' := am H; clear H; have Cs := X5.out; have Hs := l5.out; have ck2 := uH.out; have cf8 := zN.out; obtain ⟨vT, kT, lU, dU, bS, mT⟩ := V2 Y.out; have SA : 0 ≤ (V0 : Int) := of_decide_eq_true R1; have XA : V0 < (B0.length : Int) := of_decide_eq_true R1; obtain ⟨FH, FV, vW, TG, NC, nG, pG⟩ := R9 X6.out V0 SA XA; cases TG; replace NC := W0 I.out NC; have EW := am pG; have JY := am nG; clear pG nG; replace SA := eq_true SA; replace XA := eq_true XA; have qF : 0 ≤ (V0 : Int) := of_decide_eq_true R1; have JF : V0 < (B0.length : Int) := of_decide_eq_true R1; obtain ⟨VO, Jf, Vh, EN, gG, MI, lI⟩ := R9 X6.out V0 qF JF; obtain rfl : FH = VO := (by injection EN)
       replace gG := W0 I.out gG; have gY := am lI; have Ia := am MI; clear lI MI; replace qF := eq_true qF; replace JF := eq_true JF; have R_ := Option.some.inj (NC.symm.trans gG); injection R_ with R_ en_ CF
       subst R_; subst CF; clear en_; have S_ : 0 ≤ (U0 : Int) := of_decide_eq_true R1; have V_ : U0 < ((L0 B0 V0).length : Int) := of_decide_eq_true R1; obtain ⟨zH, AF, EA, Un, Xt, Ox, Qt, Jy⟩ := jA gY.out U0 S_ V_; cases AF; replace EA := W0 I.out EA; replace Un := W0 I.out Un; replace Xt := W0 I.out Xt; replace Ox := W0 I.out Ox; replace Qt := W0 I.out Qt; replace Jy := W0 I.out Jy; replace S_ := eq_true S_; replace V_ := eq_true V_; go_upto_region 10 with (((with_reducible refine P2 (N := 7) rfl ?_); refine D3 ?hg (N := 7) ?hd (cs := #[.int .i64 0, .int .i64 0, .int .i64 0, .int .i64 0, .int .i64 0, .string (⟨#[]⟩ : ByteArray)]) (t := 28) ?hr ?_; (case hd => rfl); (case hg => rfl); (case hr => exact Z2); intro z4 hg EU M0 G; replace V5 := am (Kd.j7 (Kd.Kl (qR V5.out) z4 (Nat.le_of_eq hg.symm)) G); replace bB := am (Kd.kJ (Kd.cn9 (qS bB.out) z4 (Nat.le_of_eq hg.symm)) G); have G8 := am (M0); have uF := am ((by rw [hg]; exact (S3 (D2 H0 Q0 QD I.out)) : w.heap.size ≤ z4)); have sD := am ((by rw [hg]; exact (S3 (D2 H0 Q0 QD I.out)) : w.heap.size ≤ z4)); replace I := am (T0 (D2 H0 Q0 QD I.out) G); have R6 := am ((V7 : n0 ≠ z4)); have KK := am ((X7 : z4 ≠ n0)); replace Y := am (O0 (bq Y.out) G); have JL := am ((LF : K0 ≠ z4)); have aw6 := am ((KF : z4 ≠ K0)); replace o0 := am (O0 (bq o0.out) G); have fM := am ((by rw [hg]; exact Nat.ne_of_lt (K8 (bq Z9.out)) : wF ≠ z4)); have bh5 := am ((by rw [hg]; exact Nat.ne_of_gt (K8 (bq Z9.out)) : z4 ≠ wF)); replace Z9 := am (O0 (bq Z9.out) G); clear G M0 hg; have No := KK.out; have Mp := R6.out; have fa6 := aw6.out; have ef3 := JL.out; have Ko := bh5.out; have Fy := fM.out; obtain ⟨KN, uO, xN, UO, NO, IN, LN, QN, AO, pO, OO, yO⟩ := S1 G8.out))
       obtain ⟨yM, GK⟩ : ∃ W_ : World, W_ = ((((((EU.setCell ⟨z4, 0, none⟩ (.int .i64 ((U (L0 B0 V0) U0).f0))).setCell ⟨z4, 1, none⟩ (.int .i64 ((U (L0 B0 V0) U0).f1))).setCell ⟨z4, 2, none⟩ (.int .i64 ((U (L0 B0 V0) U0).f2))).setCell ⟨z4, 3, none⟩ (.int .i64 ((U (L0 B0 V0) U0).f3))).setCell ⟨z4, 4, none⟩ (.int .i64 ((U (L0 B0 V0) U0).f4))).setCell ⟨z4, 5, none⟩ (.string ((U (L0 B0 V0) U0).f5))) := ⟨_, rfl⟩
       have N2 : Aside0 (yM.heap[z4]? = some (.cells #[.int .i64 ((U (L0 B0 V0) U0).f0), .int .i64 ((U (L0 B0 V0) U0).f1), .int .i64 ((U (L0 B0 V0) U0).f2), .int .i64 ((U (L0 B0 V0) U0).f3), .int .i64 ((U (L0 B0 V0) U0).f4), .string ((U (L0 B0 V0) U0).f5)] 28 (0, 0))) := ⟨by rw [GK]; refine J0 (cs := #[.int .i64 ((U (L0 B0 V0) U0).f0), .int .i64 ((U (L0 B0 V0) U0).f1), .int .i64 ((U (L0 B0 V0) U0).f2), .int .i64 ((U (L0 B0 V0) U0).f3), .int .i64 ((U (L0 B0 V0) U0).f4), .string (⟨#[]⟩ : ByteArray)]) ?_ 5 _ rfl; refine J0 (cs := #[.int .i64 ((U (L0 B0 V0) U0).f0), .int .i64 ((U (L0 B0 V0) U0).f1), .int .i64 ((U (L0 B0 V0) U0).f2), .int .i64 ((U (L0 B0 V0) U0).f3), .int .i64 0, .string (⟨#[]⟩ : ByteArray)]) ?_ 4 _ rfl; refine J0 (cs := #[.int .i64 ((U (L0 B0 V0) U0).f0), .int .i64 ((U (L0 B0 V0) U0).f1), .int .i64 ((U (L0 B0 V0) U0).f2), .int .i64 0, .int .i64 0, .string (⟨#[]⟩ : ByteArray)]) ?_ 3 _ rfl; refine J0 (cs := #[.int .i64 ((U (L0 B0 V0) U0).f0), .int .i64 ((U (L0 B0 V0) U0).f1), .int .i64 0, .int .i64 0, .int .i64 0, .string (⟨#[]⟩ : ByteArray)]) ?_ 2 _ rfl; refine J0 (cs := #[.int .i64 ((U (L0 B0 V0) U0).f0), .int .i64 0, .int .i64 0, .int .i64 0, .int .i64 0, .string (⟨#[]⟩ : ByteArray)]) ?_ 1 _ rfl; refine J0 (cs := #[.int .i64 0, .int .i64 0, .int .i64 0, .int .i64 0, .int .i64 0, .string (⟨#[]⟩ : ByteArray)]) ?_ 0 _ rfl; exact G8.out⟩
       have Nt : Aside0 (yM.heap[n0]? = some (.cells #[.int .i64 I0, .int .i64 C0, .slice (some FH) B0.length N3] 24 (0, 0))) := ⟨by rw [GK]; refine P0 ?_ R6.out _; refine P0 ?_ R6.out _; refine P0 ?_ R6.out _; refine P0 ?_ R6.out _; refine P0 ?_ R6.out _; refine P0 ?_ R6.out _; exact Y.out⟩
       have Ur : Aside0 (yM.heap[K0]? = some (.cells #[.int .i64 0, .int .i64 0, .slice none 0 0] 24 (0, 0))) := ⟨by rw [GK]; refine P0 ?_ JL.out _; refine P0 ?_ JL.out _; refine P0 ?_ JL.out _; refine P0 ?_ JL.out _; refine P0 ?_ JL.out _; refine P0 ?_ JL.out _; exact o0.out⟩
       have Iu : Aside0 (yM.heap[wF]? = some (.cells #[.int .i64 I0, .int .i64 C0, u104002] 24 (0, 0))) := ⟨by rw [GK]; refine P0 ?_ fM.out _; refine P0 ?_ fM.out _; refine P0 ?_ fM.out _; refine P0 ?_ fM.out _; refine P0 ?_ fM.out _; refine P0 ?_ fM.out _; exact Z9.out⟩
       have C6 := am (Kd.SB (p := ⟨z4, 5, none⟩) (Kd.SB (p := ⟨z4, 4, none⟩) (Kd.SB (p := ⟨z4, 3, none⟩) (Kd.SB (p := ⟨z4, 2, none⟩) (Kd.SB (p := ⟨z4, 1, none⟩) (Kd.SB (p := ⟨z4, 0, none⟩) (Kd.Y5 V5.out (fun k_ X => (⟨X, X.2⟩ : _ ∧ k_ ≠ z4))) (fun _ X => X.2) (.int .i64 ((U (L0 B0 V0) U0).f0))) (fun _ X => X.2) (.int .i64 ((U (L0 B0 V0) U0).f1))) (fun _ X => X.2) (.int .i64 ((U (L0 B0 V0) U0).f2))) (fun _ X => X.2) (.int .i64 ((U (L0 B0 V0) U0).f3))) (fun _ X => X.2) (.int .i64 ((U (L0 B0 V0) U0).f4))) (fun _ X => X.2) (.string ((U (L0 B0 V0) U0).f5))); rw [← GK] at C6; have X8 := am (Kd.yB (p := ⟨z4, 5, none⟩) (Kd.yB (p := ⟨z4, 4, none⟩) (Kd.yB (p := ⟨z4, 3, none⟩) (Kd.yB (p := ⟨z4, 2, none⟩) (Kd.yB (p := ⟨z4, 1, none⟩) (Kd.yB (p := ⟨z4, 0, none⟩) (Kd.kD bB.out (fun k_ X => (⟨X, X.2⟩ : _ ∧ k_ ≠ z4))) (fun _ X => X.2) (.int .i64 ((U (L0 B0 V0) U0).f0))) (fun _ X => X.2) (.int .i64 ((U (L0 B0 V0) U0).f1))) (fun _ X => X.2) (.int .i64 ((U (L0 B0 V0) U0).f2))) (fun _ X => X.2) (.int .i64 ((U (L0 B0 V0) U0).f3))) (fun _ X => X.2) (.int .i64 ((U (L0 B0 V0) U0).f4))) (fun _ X => X.2) (.string ((U (L0 B0 V0) U0).f5))); rw [← GK] at X8; have F_ : Aside0 (Below w.heap.size w yM) := ⟨by rw [GK]; exact nR H0 Q0 QD sD I.out⟩
       rw [← GK]; clear GK KN uO xN UO NO IN LN QN AO pO OO yO G8 Y o0 Z9 V5 bB I; have G8 := N2; have Y := Nt; have o0 := Ur; have Z9 := Iu; have V5 := C6; have bB := X8; have I := F_; clear N2 Nt Ur Iu C6 X8 F_; obtain ⟨KN, uO, xN, UO, NO, IN, LN, QN, AO, pO, OO, yO⟩ := S1 G8.out; go_wp2_with (((with_reducible refine O_ (b := .append) (xs := #[.tmp 54, .tmp 56]) rfl ?_); at_builtin; refine Kd.IE L3 (w0 := w) w.heap.size rfl (.tmp 54) (.tmp 56) 30 28 (.agg #[(.int .i64 0), (.int .i64 0), (.int .i64 0), (.int .i64 0), (.int .i64 0), (.string ⟨#[]⟩)]) 56 rfl Try.underlying30 rV rfl (by decide) (by omega) u5 GB (⟨(U (L0 B0 V0) U0).f0, (U (L0 B0 V0) U0).f1, (U (L0 B0 V0) U0).f2, (U (L0 B0 V0) U0).f3, (U (L0 B0 V0) U0).f4, ((U (L0 B0 V0) U0).f5).extract 0 ((XE) : Int).toNat⟩ : N0) [.int .i64 ((U (L0 B0 V0) U0).f0), .int .i64 ((U (L0 B0 V0) U0).f1), .int .i64 ((U (L0 B0 V0) U0).f2), .int .i64 ((U (L0 B0 V0) U0).f3), .int .i64 ((U (L0 B0 V0) U0).f4), .string (((U (L0 B0 V0) U0).f5).extract 0 ((XE) : Int).toNat)] (fun k_ => k_ ≠ z4) (fun _ => False) rfl Z2 ?aP (fun _ X => X.elim) ?aF ?aO ?aB ?aS ?aL ?_; (case aP => exact QJ _ _ _ (⟨(U (L0 B0 V0) U0).f0, (U (L0 B0 V0) U0).f1, (U (L0 B0 V0) U0).f2, (U (L0 B0 V0) U0).f3, (U (L0 B0 V0) U0).f4, ((U (L0 B0 V0) U0).f5).extract 0 ((XE) : Int).toNat⟩ : N0)); (case aB => exact (nR H0 Q0 QD sD I.out)); (case aF => exact (fun k_ X => Kd.M8 (g := z4) (o := .cells #[.int .i64 ((U (L0 B0 V0) U0).f0), .int .i64 ((U (L0 B0 V0) U0).f1), .int .i64 ((U (L0 B0 V0) U0).f2), .int .i64 ((U (L0 B0 V0) U0).f3), .int .i64 ((U (L0 B0 V0) U0).f4), .string (((U (L0 B0 V0) U0).f5).extract 0 ((XE) : Int).toNat)] 28 (0, 0)) (by refine bq ?_; refine J0 (cs := #[.int .i64 ((U (L0 B0 V0) U0).f0), .int .i64 ((U (L0 B0 V0) U0).f1), .int .i64 ((U (L0 B0 V0) U0).f2), .int .i64 ((U (L0 B0 V0) U0).f3), .int .i64 ((U (L0 B0 V0) U0).f4), .string ((U (L0 B0 V0) U0).f5)]) ?_ 5 _ rfl; exact bq G8.out) k_ X)); (case aO => exact (by (with_reducible repeat (first | apply Kd.GE | apply Kd.dE | apply Kd.EE)); exact Kd.Y5 (Kd.SB (p := ⟨z4, 5, none⟩) V5.out (fun _ X => X.2) (.string (((U (L0 B0 V0) U0).f5).extract 0 ((XE) : Int).toNat))) (fun _ X => X.1.2))); (case aS => exact (S3 (nR H0 Q0 QD sD I.out))); (case aL => have := Ab.out; omega); intro fm7 Kq ho G hg O1; rw [← ax0.out] at ho; replace bB := am (Kd.cx1 (ok := (fun k_ => k_ ≠ z4)) (by (with_reducible repeat (first | apply Kd.WH | apply Kd.gI | apply Kd.OF)); exact Kd.kD (Kd.yB (p := ⟨z4, 5, none⟩) bB.out (fun _ X => X.2) (.string (((U (L0 B0 V0) U0).f5).extract 0 ((XE) : Int).toNat))) (fun _ X => ⟨X.1.2, X.1.1⟩)) hg O1); replace Y := am (U6 (g := n0) (o := .cells #[.int .i64 I0, .int .i64 C0, .slice (some FH) B0.length N3] 24 (0, 0)) (by refine bq ?_; refine P0 ?_ R6.out _; exact bq Y.out) hg (Kd.n9 V5.out Y.out (by decide))); replace o0 := am (U6 (g := K0) (o := .cells #[.int .i64 0, .int .i64 0, .slice none 0 0] 24 (0, 0)) (by refine bq ?_; refine P0 ?_ JL.out _; exact bq o0.out) hg (Kd.n9 V5.out o0.out (by decide))); replace Z9 := am (U6 (g := wF) (o := .cells #[.int .i64 I0, .int .i64 C0, u104002] 24 (0, 0)) (by refine bq ?_; refine P0 ?_ fM.out _; exact bq Z9.out) hg (Kd.n9 V5.out Z9.out (by decide))); replace G8 := am (U6 (g := z4) (o := .cells #[.int .i64 ((U (L0 B0 V0) U0).f0), .int .i64 ((U (L0 B0 V0) U0).f1), .int .i64 ((U (L0 B0 V0) U0).f2), .int .i64 ((U (L0 B0 V0) U0).f3), .int .i64 ((U (L0 B0 V0) U0).f4), .string (((U (L0 B0 V0) U0).f5).extract 0 ((XE) : Int).toNat)] 28 (0, 0)) (by refine bq ?_; refine J0 (cs := #[.int .i64 ((U (L0 B0 V0) U0).f0), .int .i64 ((U (L0 B0 V0) U0).f1), .int .i64 ((U (L0 B0 V0) U0).f2), .int .i64 ((U (L0 B0 V0) U0).f3), .int .i64 ((U (L0 B0 V0) U0).f4), .string ((U (L0 B0 V0) U0).f5)]) ?_ 5 _ rfl; exact bq G8.out) hg (Kd.aq2 V5.out (fun _ X => X.2))); replace I := am (G); have bi1 := am (ho); clear V5; clear ho G hg O1)); go_roundg k3
       case measure => have := S4.out; have := XW.out; have := KC.out; omega
       case rel => exact ⟨(Ir), (wrap64 (U0 + 1)), (by rfl), H', ⟨Jl⟩, ⟨qR (Kd.Y5 bi1.out (fun _ X => trivial))⟩, ⟨qS (Kd.kD bB.out (fun _ X => X.2))⟩, ⟨bq Y.out⟩, ⟨bq o0.out⟩, ⟨bq Z9.out⟩, ⟨nR H0 Q0 QD sD I.out⟩⟩
mutual
def J5.l0 : Nat → ByteArray → ByteArray → Int → Option (Int × Int)
 | 0, _, _, _ => none
 | k + 1, x0, x4, x5 => if x5 < 14 then (if x5 ≥ (x0.size : Int) then (some ((x0.size : Int), 152)) else (if 0 ≤ x5 then (if x5 < (x0.size : Int) then (if x5 < 8 then (if x5 < (x4.size : Int) then (if ((bt x0 x5) = (bt x4 x5)) then (J5.l0 k x0 x4 (wrap64 (x5 + 1))) else (some (x5, 160))) else (none)) else (if x5 = 8 then (J5.j1 k x0 x4 x5 (bt x0 x5) true true) else (J5.j1 k x0 x4 x5 (bt x0 x5) true (x5 == 10)))) else (none)) else (none))) else (some (0, 0))
def J5.j1 : Nat → ByteArray → ByteArray → Int → Int → Bool → Bool → Option (Int × Int)
 | 0, _, _, _, _, _, _ => none
 | k + 1, x0, x4, x5, x6, x7, x29 => if x29 = true then (if x6 = 0 then (J5.l0 k x0 x4 (wrap64 (x5 + 1))) else (some (x5, 160))) else (if x5 = 9 then (if x6 ≤ 1 then (J5.l0 k x0 x4 (wrap64 (x5 + 1))) else (some (x5, 160))) else (if x5 = 11 then (if x6 ≥ 1 then (if x6 ≤ 16 then (if 9 < (x0.size : Int) then (if (bt x0 9) = 1 then (J5.l0 k x0 x4 (wrap64 (x5 + 1))) else (if x6 = 1 then (J5.l0 k x0 x4 (wrap64 (x5 + 1))) else (some (x5, 160)))) else (none)) else (some (x5, 160))) else (some (x5, 160))) else (if x5 = 12 then (if x6 < 128 then (J5.l0 k x0 x4 (wrap64 (x5 + 1))) else (some (x5, 160))) else (if x5 = 13 then (if x6 = 0 then (if 12 < (x0.size : Int) then (if (¬ (bt x0 12) = 0) then (J5.l0 k x0 x4 (wrap64 (x5 + 1))) else (some (x5, 160))) else (none)) else (J5.l0 k x0 x4 (wrap64 (x5 + 1)))) else (if x7 = true then (J5.l0 k x0 x4 (wrap64 (x5 + 1))) else (some (x5, 160)))))))
end
def J5.f (k : Nat) (a0 : ByteArray) : Option (Int × Int) := J5.l0 k a0 (⟨#[77, 84, 104, 100, 0, 0, 0, 6]⟩ : ByteArray) 0
theorem J5.mono_l : ∀ k, (∀ y0 y1 y2, F0 (J5.l0 k y0 y1 y2) (J5.l0 (k + 1) y0 y1 y2)) ∧ (∀ y0 y1 y2 y3 y4 y5, F0 (J5.j1 k y0 y1 y2 y3 y4 y5) (J5.j1 (k + 1) y0 y1 y2 y3 y4 y5))
 | 0 => ⟨fun _ _ _ r h => by simp [J5.l0] at h, fun _ _ _ _ _ _ r h => by simp [J5.j1] at h⟩
 | k + 1 => by
  obtain ⟨O2, Z5⟩ := J5.mono_l k
  refine ⟨?_, ?_⟩
  ·intro y0 y1 y2
   unfold J5.l0
   repeat' with_reducible first
    | apply O2
    | apply Z5
    | apply F0.refl
    | refine F0.ite ?_ ?_
  ·intro y0 y1 y2 y3 y4 y5
   unfold J5.j1
   repeat' with_reducible first
    | apply O2
    | apply F0.refl
    | refine F0.ite ?_ ?_
theorem J5.mono : ∀ a0 k, F0 (J5.f k a0) (J5.f (k + 1) a0) := by
 intro a0 k
 obtain ⟨O2, Z5⟩ := J5.mono_l k
 unfold J5.f
 repeat' with_reducible first
  | apply O2
set_option maxHeartbeats 8000000 in
set_option maxRecDepth 100000 in
theorem J5.calls (k : Nat) (a0 : ByteArray) (r1 : Int) (r2 : Int) (w : World) (h : J5.f k a0 = some (r1, r2)) :
 Calls Try.prog 45 #[.string a0] w fun e w' => e = .returned (.tuple #[.int .i64 r1, .int .i64 r2]) ∧ E_ w w' := by
 have H := h; unfold J5.f at H; clear h; have H' := am H; clear H; go_enter Try.func45, Try.ntmps45; go_wp2; go_loopg [5] k (fun kq v5 w' => ∃ (E0 : Int), v5 = .int .i64 E0 ∧ Aside0 (J5.l0 kq a0 (⟨#[77, 84, 104, 100, 0, 0, 0, 6]⟩ : ByteArray) E0 = some (r1, r2)) ∧ Aside0 (kq ≤ k) ∧ E_ w w')
 case atStart => exact ⟨(0), (by rfl), H', ⟨Nat.le_refl _⟩, by repeat (exact E_.refl _)⟩
 case round =>
  clear H'; obtain ⟨E0, rfl, HA, S4, ⟨m1, rfl⟩⟩ := hrel; cases gk with
  | zero => exact absurd HA.out (by simp [J5.l0])
  | succ k1 =>
   have H := HA.out; clear HA; simp only [J5.l0] at H; by_cases c2 : E0 < 14; rotate_left
   ·rw [if_neg c2] at H; have G9 : decide (E0 < 14) = false := decide_eq_false c2; clear c2; simp only [Option.some.injEq, Prod.mk.injEq] at H; obtain ⟨rfl, rfl⟩ := H; go_wp2; go_ret2; exact ⟨by rfl, F5⟩
   rw [if_pos c2] at H; have G9 : decide (E0 < 14) = true := decide_eq_true c2; clear c2; by_cases c3 : E0 ≥ (a0.size : Int)
   ·rw [if_pos c3] at H; have S8 : decide ((a0.size : Int) ≤ E0) = true := decide_eq_true c3; clear c3; simp only [Option.some.injEq, Prod.mk.injEq] at H; obtain ⟨rfl, rfl⟩ := H; go_wp2; go_ret2; exact ⟨by rfl, F5⟩
   rw [if_neg c3] at H; have S8 : decide ((a0.size : Int) ≤ E0) = false := decide_eq_false c3; clear c3; by_cases c4 : 0 ≤ E0; rotate_left
   ·rw [if_neg c4] at H; exact absurd H (by simp)
   rw [if_pos c4] at H; have T7 : decide (0 ≤ E0) = true := decide_eq_true c4; clear c4; by_cases c5 : E0 < (a0.size : Int); rotate_left
   ·rw [if_neg c5] at H; exact absurd H (by simp)
   rw [if_pos c5] at H; have qC : decide (E0 < (a0.size : Int)) = true := decide_eq_true c5; clear c5; by_cases c7 : E0 < 8
   ·rw [if_pos c7] at H; have lC : decide (E0 < 8) = true := decide_eq_true c7; clear c7; by_cases c8 : E0 < ((⟨#[77, 84, 104, 100, 0, 0, 0, 6]⟩ : ByteArray).size : Int); rotate_left
    ·rw [if_neg c8] at H; exact absurd H (by simp)
    rw [if_pos c8] at H; have JG : decide (E0 < ((⟨#[77, 84, 104, 100, 0, 0, 0, 6]⟩ : ByteArray).size : Int)) = true := decide_eq_true c8; clear c8; by_cases c10 : ((bt a0 E0) = (bt (⟨#[77, 84, 104, 100, 0, 0, 0, 6]⟩ : ByteArray) E0)); rotate_left
    ·rw [if_neg c10] at H; have hG : ((bt a0 E0) == (bt (⟨#[77, 84, 104, 100, 0, 0, 0, 6]⟩ : ByteArray) E0)) = false := beq_eq_false_iff_ne.mpr c10; have xO : ((bt a0 E0) != (bt (⟨#[77, 84, 104, 100, 0, 0, 0, 6]⟩ : ByteArray) E0)) = true := bne_iff_ne.mpr c10; simp only [Option.some.injEq, Prod.mk.injEq] at H; obtain ⟨rfl, rfl⟩ := H; have p6 : 0 ≤ (E0 : Int) := of_decide_eq_true R1; have q6 : E0 < (a0.size : Int) := of_decide_eq_true R1; have lY := K9 a0 E0; replace p6 := eq_true p6; replace q6 := eq_true q6; have p9 : 0 ≤ (E0 : Int) := of_decide_eq_true R1; have q9 : E0 < (8 : Int) := of_decide_eq_true R1; have nL := K9 (⟨#[77, 84, 104, 100, 0, 0, 0, 6]⟩ : ByteArray) E0; replace p9 := eq_true p9; replace q9 := eq_true q9; go_wp2; go_ret2; exact ⟨by rfl, F5⟩
    rw [if_pos c10] at H; have hG : ((bt a0 E0) == (bt (⟨#[77, 84, 104, 100, 0, 0, 0, 6]⟩ : ByteArray) E0)) = true := beq_iff_eq.mpr c10; have xO : ((bt a0 E0) != (bt (⟨#[77, 84, 104, 100, 0, 0, 0, 6]⟩ : ByteArray) E0)) = false := bne_eq_false_iff_eq.mpr c10; clear c10; have H' := am H; clear H; have p6 : 0 ≤ (E0 : Int) := of_decide_eq_true R1; have q6 : E0 < (a0.size : Int) := of_decide_eq_true R1; have lY := K9 a0 E0; replace p6 := eq_true p6; replace q6 := eq_true q6; have p9 : 0 ≤ (E0 : Int) := of_decide_eq_true R1; have q9 : E0 < (8 : Int) := of_decide_eq_true R1; have nL := K9 (⟨#[77, 84, 104, 100, 0, 0, 0, 6]⟩ : ByteArray) E0; replace p9 := eq_true p9; replace q9 := eq_true q9; go_wp2; go_roundg k1
    case measure => have := S4.out; omega
    case rel => exact ⟨(wrap64 (E0 + 1)), (by rfl), H', ⟨C_⟩, F5⟩
   rw [if_neg c7] at H; have lC : decide (E0 < 8) = false := decide_eq_false c7; clear c7; have Bj := am H; clear H; have p6 : 0 ≤ (E0 : Int) := of_decide_eq_true R1; have q6 : E0 < (a0.size : Int) := of_decide_eq_true R1; have lY := K9 a0 E0; replace p6 := eq_true p6; replace q6 := eq_true q6; go_upto_region 11 with (fail)
   go_cut [29] (fun v29 wc => ∃ (kq : Nat) (uX : Bool), v29 = .bool uX ∧ Aside0 (J5.j1 kq a0 (⟨#[77, 84, 104, 100, 0, 0, 0, 6]⟩ : ByteArray) E0 (bt a0 E0) true uX = some (r1, r2)) ∧ Aside0 (kq ≤ k1) ∧ E_ w wc)
   case first =>
    have H := Bj.out; clear Bj; by_cases O6 : E0 = 8; rotate_left
    ·rw [if_neg O6] at H; have JI : (E0 == 8) = false := beq_eq_false_iff_ne.mpr O6; have XT : (E0 != 8) = true := bne_iff_ne.mpr O6; have H' := am H; clear H; go_wp2; go_meet
     case rel => exact ⟨_, ((E0 == 10)), (by rfl), H', ⟨C_⟩, F5⟩
    rw [if_pos O6] at H; have JI : (E0 == 8) = true := beq_iff_eq.mpr O6; have XT : (E0 != 8) = false := bne_eq_false_iff_eq.mpr O6; clear O6; have H' := am H; clear H; go_wp2; go_meet
    case rel => exact ⟨_, (true), (by rfl), H', ⟨C_⟩, F5⟩
   case rest =>
    clear Bj; obtain ⟨kq, uX, rfl, HA, OK, ⟨ew6, rfl⟩⟩ := hcut; cases kq with
    | zero => exact absurd HA.out (by simp [J5.j1])
    | succ fE =>
     have H := HA.out; clear HA; simp only [J5.j1] at H; by_cases P8 : uX = true
     ·subst P8; have H1 : (if (bt a0 E0) = 0 then (J5.l0 fE a0 (⟨#[77, 84, 104, 100, 0, 0, 0, 6]⟩ : ByteArray) (wrap64 (E0 + 1))) else (some (E0, 160))) = some (r1, r2) := by rw [if_pos rfl] at H; exact H
      clear H; have H := H1; clear H1; by_cases F8 : (bt a0 E0) = 0; rotate_left
      ·rw [if_neg F8] at H; have DM : ((bt a0 E0) == 0) = false := beq_eq_false_iff_ne.mpr F8; have Bc : ((bt a0 E0) != 0) = true := bne_iff_ne.mpr F8; simp only [Option.some.injEq, Prod.mk.injEq] at H; obtain ⟨rfl, rfl⟩ := H; go_wp2; go_ret2; exact ⟨by rfl, F5⟩
      rw [if_pos F8] at H; have DM : ((bt a0 E0) == 0) = true := beq_iff_eq.mpr F8; have Bc : ((bt a0 E0) != 0) = false := bne_eq_false_iff_eq.mpr F8; clear F8; have H' := am H; clear H; go_wp2; go_roundg fE
      case measure => have := S4.out; have := OK.out; omega
      case rel => exact ⟨(wrap64 (E0 + 1)), (by rfl), H', ⟨NM⟩, F5⟩
     replace P8 := Bool.eq_false_iff.mpr P8; subst P8; have H1 : (if E0 = 9 then (if (bt a0 E0) ≤ 1 then (J5.l0 fE a0 (⟨#[77, 84, 104, 100, 0, 0, 0, 6]⟩ : ByteArray) (wrap64 (E0 + 1))) else (some (E0, 160))) else (if E0 = 11 then (if (bt a0 E0) ≥ 1 then (if (bt a0 E0) ≤ 16 then (if 9 < (a0.size : Int) then (if (bt a0 9) = 1 then (J5.l0 fE a0 (⟨#[77, 84, 104, 100, 0, 0, 0, 6]⟩ : ByteArray) (wrap64 (E0 + 1))) else (if (bt a0 E0) = 1 then (J5.l0 fE a0 (⟨#[77, 84, 104, 100, 0, 0, 0, 6]⟩ : ByteArray) (wrap64 (E0 + 1))) else (some (E0, 160)))) else (none)) else (some (E0, 160))) else (some (E0, 160))) else (if E0 = 12 then (if (bt a0 E0) < 128 then (J5.l0 fE a0 (⟨#[77, 84, 104, 100, 0, 0, 0, 6]⟩ : ByteArray) (wrap64 (E0 + 1))) else (some (E0, 160))) else (if E0 = 13 then (if (bt a0 E0) = 0 then (if 12 < (a0.size : Int) then (if (¬ (bt a0 12) = 0) then (J5.l0 fE a0 (⟨#[77, 84, 104, 100, 0, 0, 0, 6]⟩ : ByteArray) (wrap64 (E0 + 1))) else (some (E0, 160))) else (none)) else (J5.l0 fE a0 (⟨#[77, 84, 104, 100, 0, 0, 0, 6]⟩ : ByteArray) (wrap64 (E0 + 1)))) else (if true = true then (J5.l0 fE a0 (⟨#[77, 84, 104, 100, 0, 0, 0, 6]⟩ : ByteArray) (wrap64 (E0 + 1))) else (some (E0, 160))))))) = some (r1, r2) := by rw [if_neg (show ¬ (false = true) by decide)] at H; exact H
     clear H; have H := H1; clear H1; by_cases i5 : E0 = 9
     ·rw [if_pos i5] at H; have oJ : (E0 == 9) = true := beq_iff_eq.mpr i5; have ZN : (E0 != 9) = false := bne_eq_false_iff_eq.mpr i5; clear i5; by_cases Q8 : (bt a0 E0) ≤ 1; rotate_left
      ·rw [if_neg Q8] at H; have XU : decide ((bt a0 E0) ≤ 1) = false := decide_eq_false Q8; clear Q8; simp only [Option.some.injEq, Prod.mk.injEq] at H; obtain ⟨rfl, rfl⟩ := H; go_wp2; go_ret2; exact ⟨by rfl, F5⟩
      rw [if_pos Q8] at H; have XU : decide ((bt a0 E0) ≤ 1) = true := decide_eq_true Q8; clear Q8; have H' := am H; clear H; go_wp2; go_roundg fE
      case measure => have := S4.out; have := OK.out; omega
      case rel => exact ⟨(wrap64 (E0 + 1)), (by rfl), H', ⟨NM⟩, F5⟩
     rw [if_neg i5] at H; have oJ : (E0 == 9) = false := beq_eq_false_iff_ne.mpr i5; have ZN : (E0 != 9) = true := bne_iff_ne.mpr i5; by_cases l7 : E0 = 11
     ·rw [if_pos l7] at H; have wH : (E0 == 11) = true := beq_iff_eq.mpr l7; have FS : (E0 != 11) = false := bne_eq_false_iff_eq.mpr l7; clear l7; by_cases M7 : (bt a0 E0) ≥ 1; rotate_left
      ·rw [if_neg M7] at H; have xJ : decide (1 ≤ (bt a0 E0)) = false := decide_eq_false M7; clear M7; simp only [Option.some.injEq, Prod.mk.injEq] at H; obtain ⟨rfl, rfl⟩ := H; go_wp2; go_ret2; exact ⟨by rfl, F5⟩
      rw [if_pos M7] at H; have xJ : decide (1 ≤ (bt a0 E0)) = true := decide_eq_true M7; clear M7; by_cases N8 : (bt a0 E0) ≤ 16; rotate_left
      ·rw [if_neg N8] at H; have RL : decide ((bt a0 E0) ≤ 16) = false := decide_eq_false N8; clear N8; simp only [Option.some.injEq, Prod.mk.injEq] at H; obtain ⟨rfl, rfl⟩ := H; go_wp2; go_ret2; exact ⟨by rfl, F5⟩
      rw [if_pos N8] at H; have RL : decide ((bt a0 E0) ≤ 16) = true := decide_eq_true N8; clear N8; by_cases K5 : 9 < (a0.size : Int); rotate_left
      ·rw [if_neg K5] at H; exact absurd H (by simp)
      rw [if_pos K5] at H; have qI : decide (9 < (a0.size : Int)) = true := decide_eq_true K5; have qU : decide (9 < a0.size) = true := decide_eq_true (by omega); clear K5; by_cases P5 : (bt a0 9) = 1
      ·rw [if_pos P5] at H; have RG : ((bt a0 9) == 1) = true := beq_iff_eq.mpr P5; have wW : ((bt a0 9) != 1) = false := bne_eq_false_iff_eq.mpr P5; clear P5; have H' := am H; clear H; have IR : 0 ≤ (9 : Int) := (by omega)
       have TL : 9 < a0.size := xZ; have Ep : ∀ h : 9 < a0.size, ((a0[9]'h).toNat : Int) = bt a0 9 := K9 a0 9; clear IR; have ab5 : (9 < (a0.size : Int)) = True := eq_true (of_decide_eq_true R1); replace TL := eq_true TL; go_wp2; go_roundg fE
       case measure => have := S4.out; have := OK.out; omega
       case rel => exact ⟨(wrap64 (E0 + 1)), (by rfl), H', ⟨NM⟩, F5⟩
      rw [if_neg P5] at H; have RG : ((bt a0 9) == 1) = false := beq_eq_false_iff_ne.mpr P5; have wW : ((bt a0 9) != 1) = true := bne_iff_ne.mpr P5; by_cases L5 : (bt a0 E0) = 1; rotate_left
      ·rw [if_neg L5] at H; have EF : ((bt a0 E0) == 1) = false := beq_eq_false_iff_ne.mpr L5; have iL : ((bt a0 E0) != 1) = true := bne_iff_ne.mpr L5; simp only [Option.some.injEq, Prod.mk.injEq] at H; obtain ⟨rfl, rfl⟩ := H; have IR : 0 ≤ (9 : Int) := (by omega)
       have TL : 9 < a0.size := xZ; have Ep : ∀ h : 9 < a0.size, ((a0[9]'h).toNat : Int) = bt a0 9 := K9 a0 9; clear IR; have ab5 : (9 < (a0.size : Int)) = True := eq_true (of_decide_eq_true R1); replace TL := eq_true TL; go_wp2; go_ret2; exact ⟨by rfl, F5⟩
      rw [if_pos L5] at H; have EF : ((bt a0 E0) == 1) = true := beq_iff_eq.mpr L5; have iL : ((bt a0 E0) != 1) = false := bne_eq_false_iff_eq.mpr L5; clear L5; have H' := am H; clear H; have IR : 0 ≤ (9 : Int) := (by omega)
      have TL : 9 < a0.size := xZ; have Ep : ∀ h : 9 < a0.size, ((a0[9]'h).toNat : Int) = bt a0 9 := K9 a0 9; clear IR; have ab5 : (9 < (a0.size : Int)) = True := eq_true (of_decide_eq_true R1); replace TL := eq_true TL; go_wp2; go_roundg fE
      case measure => have := S4.out; have := OK.out; omega
      case rel => exact ⟨(wrap64 (E0 + 1)), (by rfl), H', ⟨NM⟩, F5⟩
     rw [if_neg l7] at H; have wH : (E0 == 11) = false := beq_eq_false_iff_ne.mpr l7; have FS : (E0 != 11) = true := bne_iff_ne.mpr l7; by_cases b6 : E0 = 12
     ·rw [if_pos b6] at H; have SE : (E0 == 12) = true := beq_iff_eq.mpr b6; have XN : (E0 != 12) = false := bne_eq_false_iff_eq.mpr b6; clear b6; by_cases j5 : (bt a0 E0) < 128; rotate_left
      ·rw [if_neg j5] at H; have xE : decide ((bt a0 E0) < 128) = false := decide_eq_false j5; clear j5; simp only [Option.some.injEq, Prod.mk.injEq] at H; obtain ⟨rfl, rfl⟩ := H; go_wp2; go_ret2; exact ⟨by rfl, F5⟩
      rw [if_pos j5] at H; have xE : decide ((bt a0 E0) < 128) = true := decide_eq_true j5; clear j5; have H' := am H; clear H; go_wp2; go_roundg fE
      case measure => have := S4.out; have := OK.out; omega
      case rel => exact ⟨(wrap64 (E0 + 1)), (by rfl), H', ⟨NM⟩, F5⟩
     rw [if_neg b6] at H; have SE : (E0 == 12) = false := beq_eq_false_iff_ne.mpr b6; have XN : (E0 != 12) = true := bne_iff_ne.mpr b6; by_cases i6 : E0 = 13; rotate_left
     ·rw [if_neg i6] at H; have JN : (E0 == 13) = false := beq_eq_false_iff_ne.mpr i6; have jQ : (E0 != 13) = true := bne_iff_ne.mpr i6; by_cases uB : true = true; rotate_left
      ·exact absurd rfl uB
      clear uB; have H1 : (J5.l0 fE a0 (⟨#[77, 84, 104, 100, 0, 0, 0, 6]⟩ : ByteArray) (wrap64 (E0 + 1))) = some (r1, r2) := by (rw [if_pos rfl] at H; exact H)
      clear H; have H := H1; clear H1; have H' := am H; clear H; go_wp2; go_roundg fE
      case measure => have := S4.out; have := OK.out; omega
      case rel => exact ⟨(wrap64 (E0 + 1)), (by rfl), H', ⟨NM⟩, F5⟩
     rw [if_pos i6] at H; have JN : (E0 == 13) = true := beq_iff_eq.mpr i6; have jQ : (E0 != 13) = false := bne_eq_false_iff_eq.mpr i6; clear i6; by_cases Q6 : (bt a0 E0) = 0; rotate_left
     ·rw [if_neg Q6] at H; have iO : ((bt a0 E0) == 0) = false := beq_eq_false_iff_ne.mpr Q6; have Hb : ((bt a0 E0) != 0) = true := bne_iff_ne.mpr Q6; have H' := am H; clear H; go_wp2; go_roundg fE
      case measure => have := S4.out; have := OK.out; omega
      case rel => exact ⟨(wrap64 (E0 + 1)), (by rfl), H', ⟨NM⟩, F5⟩
     rw [if_pos Q6] at H; have iO : ((bt a0 E0) == 0) = true := beq_iff_eq.mpr Q6; have Hb : ((bt a0 E0) != 0) = false := bne_eq_false_iff_eq.mpr Q6; clear Q6; by_cases J9 : 12 < (a0.size : Int); rotate_left
     ·rw [if_neg J9] at H; exact absurd H (by simp)
     rw [if_pos J9] at H; have GP : decide (12 < (a0.size : Int)) = true := decide_eq_true J9; have Db : decide (12 < a0.size) = true := decide_eq_true (by omega); clear J9; by_cases z9 : (¬ (bt a0 12) = 0); rotate_left
     ·rw [if_neg z9] at H; have eO : ((bt a0 12) != 0) = false := bne_eq_false_iff_eq.mpr (Decidable.not_not.mp z9); have zW : ((bt a0 12) == 0) = true := beq_iff_eq.mpr (Decidable.not_not.mp z9); simp only [Option.some.injEq, Prod.mk.injEq] at H; obtain ⟨rfl, rfl⟩ := H; have Mb : 0 ≤ (12 : Int) := (by omega)
      have US : 12 < a0.size := (by have : (12 : Int) < (a0.size : Int) := of_decide_eq_true R1; omega)
      have ca4 : ∀ h : 12 < a0.size, ((a0[12]'h).toNat : Int) = bt a0 12 := K9 a0 12; clear Mb; have ci0 : (12 < (a0.size : Int)) = True := eq_true (of_decide_eq_true R1); replace US := eq_true US; go_wp2; go_ret2; exact ⟨by rfl, F5⟩
     rw [if_pos z9] at H; have eO : ((bt a0 12) != 0) = true := bne_iff_ne.mpr z9; have zW : ((bt a0 12) == 0) = false := beq_eq_false_iff_ne.mpr z9; clear z9; have H' := am H; clear H; have Mb : 0 ≤ (12 : Int) := (by omega)
     have US : 12 < a0.size := (by have : (12 : Int) < (a0.size : Int) := of_decide_eq_true R1; omega)
     have ca4 : ∀ h : 12 < a0.size, ((a0[12]'h).toNat : Int) = bt a0 12 := K9 a0 12; clear Mb; have ci0 : (12 < (a0.size : Int)) = True := eq_true (of_decide_eq_true R1); replace US := eq_true US; go_wp2; go_roundg fE
     case measure => have := S4.out; have := OK.out; omega
     case rel => exact ⟨(wrap64 (E0 + 1)), (by rfl), H', ⟨NM⟩, F5⟩
def L8.l0 : Nat → ByteArray → Int → Int → Option (Int)
 | 0, _, _, _ => none
 | k + 1, x0, x3, x4 => if x4 < (x0.size : Int) then (if 0 ≤ x4 then (L8.l0 k x0 (wrap64 ((wrap64 (x3 * 256)) + (wrap64 (bt x0 x4)))) (wrap64 (x4 + 1))) else (none)) else (some x3)
def L8.f (k : Nat) (a0 : ByteArray) : Option (Int) := L8.l0 k a0 0 0
theorem L8.mono_l : ∀ k, (∀ y0 y1 y2, F0 (L8.l0 k y0 y1 y2) (L8.l0 (k + 1) y0 y1 y2))
 | 0 => fun _ _ _ r h => by simp [L8.l0] at h
 | k + 1 => by
  have O2 := L8.mono_l k
  ·intro y0 y1 y2
   unfold L8.l0
   repeat' first
   | (with_reducible exact O2 _ _ _)
   | (with_reducible exact F0.refl _)
   | (with_reducible exact F0.none _)
   | (with_reducible refine F0.ite ?_ ?_)
   | (with_reducible refine F0.bind ?_ (fun _ => ?_))
   | exact O2 _ _ _
   | exact F0.none _
   | refine F0.ite ?_ ?_
   | refine F0.bind ?_ (fun _ => ?_)
theorem L8.mono : ∀ a0 k, F0 (L8.f k a0) (L8.f (k + 1) a0) := by
 intro a0 k
 have O2 := L8.mono_l k
 unfold L8.f
 repeat' first
  | (with_reducible exact O2 _ _ _)
  | (with_reducible exact F0.refl _)
  | (with_reducible exact F0.none _)
  | (with_reducible refine F0.ite ?_ ?_)
  | (with_reducible refine F0.bind ?_ (fun _ => ?_))
  | exact O2 _ _ _
  | exact F0.none _
  | refine F0.ite ?_ ?_
  | refine F0.bind ?_ (fun _ => ?_)
set_option maxHeartbeats 8000000 in
set_option maxRecDepth 100000 in
theorem L8.calls (k : Nat) (a0 : ByteArray) (r : Int) (w : World) (h : L8.f k a0 = some r) :
 Calls Try.prog 46 #[.string a0] w fun e w' => e = .returned (.int .i64 r) ∧ E_ w w' := by
 have H := h; unfold L8.f at H; clear h; have H' := am H; clear H; go_enter Try.func46, Try.ntmps46; go_wp2; go_loopg [3, 4] k (fun kq v3 v4 w' => ∃ (Y6 : Int) (V0 : Int), v3 = .int .i64 Y6 ∧ v4 = .int .i64 V0 ∧ Aside0 (L8.l0 kq a0 Y6 V0 = some r) ∧ Aside0 (kq ≤ k) ∧ E_ w w')
 case atStart => exact ⟨(0), (0), o6, o6, H', ⟨Nat.le_refl _⟩, F5⟩
 case round =>
  clear H'; obtain ⟨Y6, V0, rfl, rfl, HA, S4, ⟨m1, rfl⟩⟩ := hrel; cases gk with
  | zero => exact absurd HA.out (by simp [L8.l0])
  | succ k1 =>
   have H := HA.out; clear HA; simp only [L8.l0] at H; by_cases c2 : V0 < (a0.size : Int); rotate_left
   ·rw [if_neg c2] at H; have G9 : decide (V0 < (a0.size : Int)) = false := decide_eq_false c2; clear c2; obtain rfl := Option.some.inj H; go_wp2; go_ret; exact ⟨o6, F5⟩
   rw [if_pos c2] at H; have G9 : decide (V0 < (a0.size : Int)) = true := decide_eq_true c2; clear c2; by_cases c3 : 0 ≤ V0; rotate_left
   ·rw [if_neg c3] at H; exact absurd H (by simp)
   rw [if_pos c3] at H; have S8 : decide (0 ≤ V0) = true := decide_eq_true c3; clear c3; have H' := am H; clear H; have p4 : 0 ≤ (V0 : Int) := of_decide_eq_true p7; have q4 : V0 < (a0.size : Int) := of_decide_eq_true p7; have hx4 := K9 a0 V0; replace p4 := eq_true p4; replace q4 := eq_true q4; go_wp2; go_roundg k1
   case measure => have := S4.out; omega
   case rel => exact ⟨(wrap64 ((wrap64 (Y6 * 256)) + (wrap64 (bt a0 V0)))), (wrap64 (V0 + 1)), o6, o6, H', ⟨C_⟩, F5⟩
mutual
def z7.j0 : Nat → ByteArray → Int → Bool → Option (Int × Int × Int)
 | 0, _, _, _ => none
 | k + 1, x0, x1, dJ => if dJ = true then (some (0, 0, 2)) else (z7.l0 k x0 x1 0 0)
def z7.l0 : Nat → ByteArray → Int → Int → Int → Option (Int × Int × Int)
 | 0, _, _, _, _ => none
 | k + 1, x0, x1, x7, x8 => if x8 < 4 then (if x1 = (x0.size : Int) then (some (0, 0, 152)) else (if 0 ≤ x1 then (if x1 < (x0.size : Int) then (if (wrap64 (bt x0 x1)) < 128 then (some (wrap64 ((wrap64 (128 * x7)) + (wrap64 (bt x0 x1))), wrap64 (x1 + 1), 0)) else (z7.l0 k x0 (wrap64 (x1 + 1)) (wrap64 ((wrap64 ((wrap64 (128 * x7)) + (wrap64 (bt x0 x1)))) - 128)) (wrap64 (x8 + 1)))) else (none)) else (none))) else (some (0, 0, 150))
end
def z7.f (k : Nat) (a0 : ByteArray) (a1 : Int) : Option (Int × Int × Int) := if a1 < 0 then (z7.j0 k a0 a1 true) else (z7.j0 k a0 a1 (decide (a1 > (a0.size : Int))))
theorem z7.mono_l : ∀ k, (∀ y0 y1 y2, F0 (z7.j0 k y0 y1 y2) (z7.j0 (k + 1) y0 y1 y2)) ∧ (∀ y0 y1 y2 y3, F0 (z7.l0 k y0 y1 y2 y3) (z7.l0 (k + 1) y0 y1 y2 y3))
 | 0 => ⟨fun _ _ _ r h => by simp [z7.j0] at h, fun _ _ _ _ r h => by simp [z7.l0] at h⟩
 | k + 1 => by
  obtain ⟨O2, Z5⟩ := z7.mono_l k
  refine ⟨?_, ?_⟩
  ·intro y0 y1 y2
   unfold z7.j0
   repeat' first
   | (with_reducible exact O2 _ _ _)
   | (with_reducible exact Z5 _ _ _ _)
   | (with_reducible exact F0.refl _)
   | (with_reducible exact F0.none _)
   | (with_reducible refine F0.ite ?_ ?_)
   | (with_reducible refine F0.bind ?_ (fun _ => ?_))
   | exact O2 _ _ _
   | exact Z5 _ _ _ _
   | exact F0.none _
   | refine F0.ite ?_ ?_
   | refine F0.bind ?_ (fun _ => ?_)
  ·intro y0 y1 y2 y3
   unfold z7.l0
   repeat' first
   | (with_reducible exact O2 _ _ _)
   | (with_reducible exact Z5 _ _ _ _)
   | (with_reducible exact F0.refl _)
   | (with_reducible exact F0.none _)
   | (with_reducible refine F0.ite ?_ ?_)
   | (with_reducible refine F0.bind ?_ (fun _ => ?_))
   | exact O2 _ _ _
   | exact Z5 _ _ _ _
   | exact F0.none _
   | refine F0.ite ?_ ?_
   | refine F0.bind ?_ (fun _ => ?_)
theorem z7.mono : ∀ a0 a1 k, F0 (z7.f k a0 a1) (z7.f (k + 1) a0 a1) := by
 intro a0 a1 k
 obtain ⟨O2, Z5⟩ := z7.mono_l k
 unfold z7.f
 repeat' first
  | (with_reducible exact O2 _ _ _)
  | (with_reducible exact Z5 _ _ _ _)
  | (with_reducible exact F0.refl _)
  | (with_reducible exact F0.none _)
  | (with_reducible refine F0.ite ?_ ?_)
  | (with_reducible refine F0.bind ?_ (fun _ => ?_))
  | exact O2 _ _ _
  | exact Z5 _ _ _ _
  | exact F0.none _
  | refine F0.ite ?_ ?_
  | refine F0.bind ?_ (fun _ => ?_)
set_option maxHeartbeats 8000000 in
set_option maxRecDepth 100000 in
theorem z7.calls (k : Nat) (a0 : ByteArray) (a1 : Int) (r1 : Int) (r2 : Int) (r3 : Int) (w : World) (h : z7.f k a0 a1 = some (r1, r2, r3)) :
 Calls Try.prog 67 #[.string a0, .int .i64 a1] w fun e w' => e = .returned (.tuple #[.int .i64 r1, .int .i64 r2, .int .i64 r3]) ∧ E_ w w' := by
 have H := h; unfold z7.f at H; clear h; have tI := am H; clear H; go_enter Try.func67, Try.ntmps67; go_upto_region 1 with (fail)
 go_cut [17] (fun cT wc => ∃ (kq : Nat) (bK : Bool), cT = .bool bK ∧ Aside0 (z7.j0 kq a0 a1 bK = some (r1, r2, r3)) ∧ Aside0 (kq ≤ k) ∧ E_ w wc)
 case first =>
  have H := tI.out; clear tI; by_cases c4 : a1 < 0
  ·rw [if_pos c4] at H; have T7 : decide (a1 < 0) = true := decide_eq_true c4; clear c4; (first | rw [T7] | (simp only [B3, M3]; rw [T7]) | skip); have H' := am H; clear H; go_wp2; go_meet
   case rel => exact ⟨_, (true), o6, H', ⟨EZ⟩, F5⟩
  rw [if_neg c4] at H; have T7 : decide (a1 < 0) = false := decide_eq_false c4; clear c4; (first | rw [T7] | (simp only [B3, M3]; rw [T7]) | skip); have H' := am H; clear H; go_wp2; go_meet
  case rel => exact ⟨_, (decide (a1 > (a0.size : Int))), o6, H', ⟨EZ⟩, F5⟩
 case rest =>
  clear tI; try clear p2
  try clear c4
  try clear T7
  obtain ⟨kq, bK, rfl, HA, qJ, ⟨mc2, rfl⟩⟩ := hcut; cases kq with
  | zero => exact absurd HA.out (by simp [z7.j0])
  | succ vI =>
   have H := HA.out; clear HA; simp only [z7.j0] at H; by_cases c5 : bK = true
   ·subst c5; have H1 : (some (0, 0, 2)) = some (r1, r2, r3) := by rw [if_pos rfl] at H; exact H
    clear H; have H := H1; clear H1; simp only [Option.some.injEq, Prod.mk.injEq] at H; obtain ⟨rfl, rfl, rfl⟩ := H; go_wp2; go_ret3; exact ⟨o6, F5⟩
   replace c5 := Bool.eq_false_iff.mpr c5; subst c5; have H1 : (z7.l0 vI a0 a1 0 0) = some (r1, r2, r3) := by rw [if_neg (show ¬ (false = true) by decide)] at H; exact H
   clear H; have H := H1; clear H1; have H' := am H; clear H; go_wp2; go_loopg [1, 7, 8] vI (fun kq v1 v7 v8 w' => ∃ (oC : Int) (sI : Int) (oO : Int), v1 = .int .i64 oC ∧ v7 = .int .i64 sI ∧ v8 = .int .i64 oO ∧ Aside0 (z7.l0 kq a0 oC sI oO = some (r1, r2, r3)) ∧ Aside0 (kq ≤ vI) ∧ E_ w w')
   case atStart => exact ⟨(a1), (0), (0), o6, o6, o6, H', ⟨Nat.le_refl _⟩, F5⟩
   case round =>
    clear H'; try clear c2
    try clear p2
    try clear c4
    try clear T7
    try clear c5
    try clear p2
    obtain ⟨oC, sI, oO, rfl, rfl, rfl, HA, TA, ⟨m2, rfl⟩⟩ := hrel; cases gk with
    | zero => exact absurd HA.out (by simp [z7.l0])
    | succ k2 =>
     have H := HA.out; clear HA; simp only [z7.l0] at H; by_cases c6 : oO < 4; rotate_left
     ·rw [if_neg c6] at H; have cC : decide (oO < 4) = false := decide_eq_false c6; clear c6; simp only [Option.some.injEq, Prod.mk.injEq] at H; obtain ⟨rfl, rfl, rfl⟩ := H; go_wp2; go_ret3; exact ⟨o6, F5⟩
     rw [if_pos c6] at H; have cC : decide (oO < 4) = true := decide_eq_true c6; clear c6; by_cases c7 : oC = (a0.size : Int)
     ·rw [if_pos c7] at H; have lC : (oC == (a0.size : Int)) = true := beq_iff_eq.mpr c7; have zL : (oC != (a0.size : Int)) = false := bne_eq_false_iff_eq.mpr c7; clear c7; simp only [Option.some.injEq, Prod.mk.injEq] at H; obtain ⟨rfl, rfl, rfl⟩ := H; go_wp2; go_ret3; exact ⟨o6, F5⟩
     rw [if_neg c7] at H; have lC : (oC == (a0.size : Int)) = false := beq_eq_false_iff_ne.mpr c7; have zL : (oC != (a0.size : Int)) = true := bne_iff_ne.mpr c7; by_cases c8 : 0 ≤ oC; rotate_left
     ·rw [if_neg c8] at H; exact absurd H (by simp)
     rw [if_pos c8] at H; have JG : decide (0 ≤ oC) = true := decide_eq_true c8; clear c8; by_cases c9 : oC < (a0.size : Int); rotate_left
     ·rw [if_neg c9] at H; exact absurd H (by simp)
     rw [if_pos c9] at H; have xH : decide (oC < (a0.size : Int)) = true := decide_eq_true c9; clear c9; by_cases Y7 : (wrap64 (bt a0 oC)) < 128
     ·rw [if_pos Y7] at H; have jL : decide ((wrap64 (bt a0 oC)) < 128) = true := decide_eq_true Y7; clear Y7; simp only [Option.some.injEq, Prod.mk.injEq] at H; obtain ⟨rfl, rfl, rfl⟩ := H; have gS : 0 ≤ (oC : Int) := of_decide_eq_true p7; have KR : oC < (a0.size : Int) := of_decide_eq_true p7; have au8 := K9 a0 oC; replace gS := eq_true gS; replace KR := eq_true KR; go_wp2; go_ret3; exact ⟨o6, F5⟩
     rw [if_neg Y7] at H; have jL : decide ((wrap64 (bt a0 oC)) < 128) = false := decide_eq_false Y7; clear Y7; have H' := am H; clear H; have gS : 0 ≤ (oC : Int) := of_decide_eq_true p7; have KR : oC < (a0.size : Int) := of_decide_eq_true p7; have au8 := K9 a0 oC; replace gS := eq_true gS; replace KR := eq_true KR; go_wp2; go_roundg k2
     case measure => have := qJ.out; have := TA.out; omega
     case rel => exact ⟨(wrap64 (oC + 1)), (wrap64 ((wrap64 ((wrap64 (128 * sI)) + (wrap64 (bt a0 oC)))) - 128)), (wrap64 (oO + 1)), o6, o6, o6, H', ⟨by have := qJ.out; have := TA.out; omega⟩, F5⟩
def QF.f (a0 : ByteArray) (a1 : Int) : Option (Int × Int) := if a1 ≥ (a0.size : Int) then (some (0, 152)) else (if 0 ≤ a1 then (if a1 < (a0.size : Int) then (if (bt a0 a1) ≥ 128 then (some (0, 151)) else (some (wrap64 (bt a0 a1), 0))) else (none)) else (none))
set_option maxHeartbeats 8000000 in
set_option maxRecDepth 100000 in
theorem QF.calls (a0 : ByteArray) (a1 : Int) (r1 : Int) (r2 : Int) (w : World) (h : QF.f a0 a1 = some (r1, r2)) :
 Calls Try.prog 74 #[.string a0, .int .i64 a1] w fun e w' => e = .returned (.tuple #[.int .i64 r1, .int .i64 r2]) ∧ E_ w w' := by
 have H := h; unfold QF.f at H; clear h; by_cases c3 : a1 ≥ (a0.size : Int)
 ·rw [if_pos c3] at H; have S8 : decide ((a0.size : Int) ≤ a1) = true := decide_eq_true c3; clear c3; simp only [Option.some.injEq, Prod.mk.injEq] at H; obtain ⟨rfl, rfl⟩ := H; go_enter Try.func74, Try.ntmps74; go_wp2; go_ret2; exact ⟨o6, F5⟩
 rw [if_neg c3] at H; have S8 : decide ((a0.size : Int) ≤ a1) = false := decide_eq_false c3; clear c3; by_cases c4 : 0 ≤ a1; rotate_left
 ·rw [if_neg c4] at H; exact absurd H (by simp)
 rw [if_pos c4] at H; have T7 : decide (0 ≤ a1) = true := decide_eq_true c4; clear c4; by_cases c5 : a1 < (a0.size : Int); rotate_left
 ·rw [if_neg c5] at H; exact absurd H (by simp)
 rw [if_pos c5] at H; have qC : decide (a1 < (a0.size : Int)) = true := decide_eq_true c5; clear c5; by_cases c7 : (bt a0 a1) ≥ 128
 ·rw [if_pos c7] at H; have lC : decide (128 ≤ (bt a0 a1)) = true := decide_eq_true c7; clear c7; simp only [Option.some.injEq, Prod.mk.injEq] at H; obtain ⟨rfl, rfl⟩ := H; have p6 : 0 ≤ (a1 : Int) := of_decide_eq_true p7; have q6 : a1 < (a0.size : Int) := of_decide_eq_true p7; have lY := K9 a0 a1; replace p6 := eq_true p6; replace q6 := eq_true q6; go_enter Try.func74, Try.ntmps74; go_wp2; go_ret2; exact ⟨o6, F5⟩
 rw [if_neg c7] at H; have lC : decide (128 ≤ (bt a0 a1)) = false := decide_eq_false c7; clear c7; simp only [Option.some.injEq, Prod.mk.injEq] at H; obtain ⟨rfl, rfl⟩ := H; have p6 : 0 ≤ (a1 : Int) := of_decide_eq_true p7; have q6 : a1 < (a0.size : Int) := of_decide_eq_true p7; have lY := K9 a0 a1; replace p6 := eq_true p6; replace q6 := eq_true q6; have p8 : 0 ≤ (a1 : Int) := of_decide_eq_true p7; have q8 : a1 < (a0.size : Int) := of_decide_eq_true p7; have hx8 := K9 a0 a1; replace p8 := eq_true p8; replace q8 := eq_true q8; go_enter Try.func74, Try.ntmps74; go_wp2; go_ret2; exact ⟨o6, F5⟩
def cR.f (a0 : ByteArray) (a1 : Int) (Y4 : Int) (Z3 : Int) (E6 : Int) (q_ : Int) (W8 : Int) (T_ : ByteArray) : Option (Int × Int × Int × Int × Int × ByteArray × Int × Int) := (QF.f a0 a1).bind fun cK => (if cK.2 = 0 then (if Z3 = 12 then (some (Y4, Z3, E6, cK.1, W8, T_, wrap64 (a1 + 1), 0)) else (if Z3 = 13 then (some (Y4, Z3, E6, cK.1, W8, T_, wrap64 (a1 + 1), 0)) else ((QF.f a0 (wrap64 (a1 + 1))).bind fun mE => (some (Y4, Z3, E6, cK.1, mE.1, T_, wrap64 (a1 + 2), mE.2))))) else (some (Y4, Z3, E6, q_, W8, T_, 0, cK.2)))
set_option maxHeartbeats 8000000 in
set_option maxRecDepth 100000 in
theorem cR.calls (a0 : ByteArray) (a1 : Int) (Y4 : Int) (Z3 : Int) (E6 : Int) (q_ : Int) (W8 : Int) (T_ : ByteArray) (r1 : Int) (r2 : Int) (r3 : Int) (r4 : Int) (r5 : Int) (r6 : ByteArray) (r7 : Int) (r8 : Int) (w : World) (h : cR.f a0 a1 Y4 Z3 E6 q_ W8 T_ = some (r1, r2, r3, r4, r5, r6, r7, r8)) :
 Calls Try.prog 68 #[.string a0, .int .i64 a1, .agg #[.int .i64 Y4, .int .i64 Z3, .int .i64 E6, .int .i64 q_, .int .i64 W8, .string T_]] w fun e w' => e = .returned (.tuple #[.agg #[.int .i64 r1, .int .i64 r2, .int .i64 r3, .int .i64 r4, .int .i64 r5, .string r6], .int .i64 r7, .int .i64 r8]) ∧ Below w.heap.size w w' := by
 have WB := Try.underlying28; have I := am (Below.refl w.heap.size w); have H := h; unfold cR.f at H; clear h; replace H := L2 H; obtain ⟨⟨t103, t104⟩, mA, H⟩ := H; have A4 := am mA; clear mA; by_cases c5 : t104 = 0; rotate_left
 ·rw [if_neg c5] at H; have qC : (t104 == 0) = false := beq_eq_false_iff_ne.mpr c5; have DF : (t104 != 0) = true := bne_iff_ne.mpr c5; simp only [Option.some.injEq, Prod.mk.injEq] at H; obtain ⟨rfl, rfl, rfl, rfl, rfl, rfl, rfl, rfl⟩ := H; go_enter Try.func68, Try.ntmps68; go_wp2_with (first | ((with_reducible refine P2 (N := 5) rfl ?_); refine D3 ?hg (N := 5) ?hd (cs := #[.int .i64 Y4, .int .i64 Z3, .int .i64 E6, .int .i64 q_, .int .i64 W8, .string T_]) (t := 28) ?hr ?_; (case hd => rfl); (case hg => rfl); (case hr => exact Z2); intro n0 hg KY M0 G; have Y := am (M0); have W6 := am ((U2 : w.heap.size ≤ n0)); have H0 := am ((U2 : w.heap.size ≤ n0)); replace I := am (T0 (qB I.out) G); clear G M0 hg) | ((with_reducible refine P2 (N := 6) rfl ?_); refine D3 ?hg (N := 6) ?hd (cs := #[.int .i64 0, .int .i64 0, .int .i64 0, .int .i64 0, .int .i64 0, .string (⟨#[]⟩ : ByteArray)]) (t := 28) ?hr ?_; (case hd => rfl); (case hg => rfl); (case hr => exact Z2); intro K0 hg eK M0 G; have o0 := am (M0); have YA := am ((J7 : w.heap.size ≤ K0)); have Q0 := am ((J7 : w.heap.size ≤ K0)); replace I := am (T0 (S0 H0 I.out) G); have X5 := am ((V7 : n0 ≠ K0)); have l5 := am ((X7 : K0 ≠ n0)); replace Y := am (O0 (bq Y.out) G); clear G M0 hg) | ((with_reducible refine H2 (f := 74) rfl ?_); refine G2 (some 16) rfl rfl Try.func74 (by kernel_rfl) rfl #[.string a0, .int .i64 a1] rfl F2 ?_; (with_reducible refine (QF.calls a0 a1 t103 t104 _ A4.out).mono ?_); rintro e w' ⟨rfl, ⟨nd, rfl⟩⟩; refine ⟨_, rfl, ?_⟩; (try (rw [NE eK]; generalize n6 : World.drewN eK _ = eK; have N2 : Aside0 (eK.heap[n0]? = some (.cells #[.int .i64 Y4, .int .i64 Z3, .int .i64 E6, .int .i64 q_, .int .i64 W8, .string T_] 28 (0, 0))) := ⟨DE⟩; have R2 : Aside0 (eK.heap[K0]? = some (.cells #[.int .i64 0, .int .i64 0, .int .i64 0, .int .i64 0, .int .i64 0, .string (⟨#[]⟩ : ByteArray)] 28 (0, 0))) := ⟨pL⟩; have E3 : Aside0 (Below w.heap.size w eK) := ⟨rP⟩; clear Y o0 I n6; have Y := N2; have o0 := R2; have I := E3; clear N2 R2 E3)); have bl3 := X5.out; have bq2 := l5.out; obtain ⟨Ja, De, Ug, Dz, by0, bu6, Dd, Cj, Vi, Yz, bw1, az7⟩ := S1 Y.out; obtain ⟨Pt, As, Mv, Sv, Ms, Sz, Dt, Xx, Fs, Av, Ro, Vq⟩ := S1 o0.out)); refine bodyPost_ret (wG rfl _ _ K0 28 #[.int .i64 Y4, .int .i64 Z3, .int .i64 E6, .int .i64 q_, .int .i64 W8, .string T_] (0, 0) _ rfl (by refine bq ?_; refine J0 (cs := #[.int .i64 Y4, .int .i64 Z3, .int .i64 E6, .int .i64 q_, .int .i64 W8, .string (⟨#[]⟩ : ByteArray)]) ?_ 5 _ rfl; refine bq ?_; refine J0 (cs := #[.int .i64 Y4, .int .i64 Z3, .int .i64 E6, .int .i64 q_, .int .i64 0, .string (⟨#[]⟩ : ByteArray)]) ?_ 4 _ rfl; refine bq ?_; refine J0 (cs := #[.int .i64 Y4, .int .i64 Z3, .int .i64 E6, .int .i64 0, .int .i64 0, .string (⟨#[]⟩ : ByteArray)]) ?_ 3 _ rfl; refine bq ?_; refine J0 (cs := #[.int .i64 Y4, .int .i64 Z3, .int .i64 0, .int .i64 0, .int .i64 0, .string (⟨#[]⟩ : ByteArray)]) ?_ 2 _ rfl; refine bq ?_; refine J0 (cs := #[.int .i64 Y4, .int .i64 0, .int .i64 0, .int .i64 0, .int .i64 0, .string (⟨#[]⟩ : ByteArray)]) ?_ 1 _ rfl; refine bq ?_; refine J0 (cs := #[.int .i64 0, .int .i64 0, .int .i64 0, .int .i64 0, .int .i64 0, .string (⟨#[]⟩ : ByteArray)]) ?_ 0 _ rfl; exact bq o0.out) Try.underlying28 rfl (by kernel_rfl)) rfl ?_; exact ⟨by rfl, X2 H0 Q0 I.out⟩
 rw [if_pos c5] at H; have qC : (t104 == 0) = true := beq_iff_eq.mpr c5; have DF : (t104 != 0) = false := bne_eq_false_iff_eq.mpr c5; clear c5; by_cases c6 : Z3 = 12
 ·rw [if_pos c6] at H; have cC : (Z3 == 12) = true := beq_iff_eq.mpr c6; have CH : (Z3 != 12) = false := bne_eq_false_iff_eq.mpr c6; clear c6; simp only [Option.some.injEq, Prod.mk.injEq] at H; obtain ⟨rfl, rfl, rfl, rfl, rfl, rfl, rfl, rfl⟩ := H; go_enter Try.func68, Try.ntmps68; go_wp2_with (first | ((with_reducible refine P2 (N := 5) rfl ?_); refine D3 ?hg (N := 5) ?hd (cs := #[.int .i64 Y4, .int .i64 Z3, .int .i64 E6, .int .i64 q_, .int .i64 W8, .string T_]) (t := 28) ?hr ?_; (case hd => rfl); (case hg => rfl); (case hr => exact Z2); intro n0 hg w7 M0 G; have Y := am (M0); have W6 := am ((U2 : w.heap.size ≤ n0)); have H0 := am ((U2 : w.heap.size ≤ n0)); replace I := am (T0 (qB I.out) G); clear G M0 hg) | ((with_reducible refine P2 (N := 6) rfl ?_); refine D3 ?hg (N := 6) ?hd (cs := #[.int .i64 0, .int .i64 0, .int .i64 0, .int .i64 0, .int .i64 0, .string (⟨#[]⟩ : ByteArray)]) (t := 28) ?hr ?_; (case hd => rfl); (case hg => rfl); (case hr => exact Z2); intro K0 hg w8 M0 G; have o0 := am (M0); have YA := am ((J7 : w.heap.size ≤ K0)); have Q0 := am ((J7 : w.heap.size ≤ K0)); replace I := am (T0 (S0 H0 I.out) G); have X5 := am ((V7 : n0 ≠ K0)); have l5 := am ((X7 : K0 ≠ n0)); replace Y := am (O0 (bq Y.out) G); clear G M0 hg) | ((with_reducible refine H2 (f := 74) rfl ?_); refine G2 (some 16) rfl rfl Try.func74 (by kernel_rfl) rfl #[.string a0, .int .i64 a1] rfl F2 ?_; (with_reducible refine (QF.calls a0 a1 t103 t104 _ A4.out).mono ?_); rintro e w' ⟨rfl, ⟨nd, rfl⟩⟩; refine ⟨_, rfl, ?_⟩; (try (rw [NE w8]; generalize n6 : World.drewN w8 _ = w8; have N2 : Aside0 (w8.heap[n0]? = some (.cells #[.int .i64 Y4, .int .i64 Z3, .int .i64 E6, .int .i64 q_, .int .i64 W8, .string T_] 28 (0, 0))) := ⟨DE⟩; have R2 : Aside0 (w8.heap[K0]? = some (.cells #[.int .i64 0, .int .i64 0, .int .i64 0, .int .i64 0, .int .i64 0, .string (⟨#[]⟩ : ByteArray)] 28 (0, 0))) := ⟨pL⟩; have E3 : Aside0 (Below w.heap.size w w8) := ⟨rP⟩; clear Y o0 I n6; have Y := N2; have o0 := R2; have I := E3; clear N2 R2 E3)); have cb1 := X5.out; have br7 := l5.out; obtain ⟨MU, UR, iT, bj8, ci7, bo2, nT, QS, PU, bk6, bk9, bt0⟩ := S1 Y.out; obtain ⟨NU, JU, YU, LW, AX, SW, aU, gT, XR, WW, OV, cY⟩ := S1 o0.out)); refine bodyPost_ret (wG rfl _ _ K0 28 #[.int .i64 Y4, .int .i64 Z3, .int .i64 E6, .int .i64 t103, .int .i64 W8, .string T_] (0, 0) _ rfl (by refine bq ?_; refine J0 (cs := #[.int .i64 Y4, .int .i64 Z3, .int .i64 E6, .int .i64 t103, .int .i64 W8, .string (⟨#[]⟩ : ByteArray)]) ?_ 5 _ rfl; refine bq ?_; refine J0 (cs := #[.int .i64 Y4, .int .i64 Z3, .int .i64 E6, .int .i64 t103, .int .i64 0, .string (⟨#[]⟩ : ByteArray)]) ?_ 4 _ rfl; refine bq ?_; refine J0 (cs := #[.int .i64 Y4, .int .i64 Z3, .int .i64 E6, .int .i64 0, .int .i64 0, .string (⟨#[]⟩ : ByteArray)]) ?_ 3 _ rfl; refine bq ?_; refine J0 (cs := #[.int .i64 Y4, .int .i64 Z3, .int .i64 0, .int .i64 0, .int .i64 0, .string (⟨#[]⟩ : ByteArray)]) ?_ 2 _ rfl; refine bq ?_; refine J0 (cs := #[.int .i64 Y4, .int .i64 0, .int .i64 0, .int .i64 0, .int .i64 0, .string (⟨#[]⟩ : ByteArray)]) ?_ 1 _ rfl; refine bq ?_; refine J0 (cs := #[.int .i64 0, .int .i64 0, .int .i64 0, .int .i64 0, .int .i64 0, .string (⟨#[]⟩ : ByteArray)]) ?_ 0 _ rfl; refine bq ?_; refine P0 ?_ l5.out _; exact bq o0.out) Try.underlying28 rfl (by kernel_rfl)) rfl ?_; exact ⟨by rfl, X2 H0 Q0 I.out⟩
 rw [if_neg c6] at H; have cC : (Z3 == 12) = false := beq_eq_false_iff_ne.mpr c6; have CH : (Z3 != 12) = true := bne_iff_ne.mpr c6; by_cases O6 : Z3 = 13
 ·rw [if_pos O6] at H; have JI : (Z3 == 13) = true := beq_iff_eq.mpr O6; have XT : (Z3 != 13) = false := bne_eq_false_iff_eq.mpr O6; clear O6; simp only [Option.some.injEq, Prod.mk.injEq] at H; obtain ⟨rfl, rfl, rfl, rfl, rfl, rfl, rfl, rfl⟩ := H; go_enter Try.func68, Try.ntmps68; go_wp2_with (first | ((with_reducible refine P2 (N := 5) rfl ?_); refine D3 ?hg (N := 5) ?hd (cs := #[.int .i64 Y4, .int .i64 Z3, .int .i64 E6, .int .i64 q_, .int .i64 W8, .string T_]) (t := 28) ?hr ?_; (case hd => rfl); (case hg => rfl); (case hr => exact Z2); intro n0 hg n7 M0 G; have Y := am (M0); have W6 := am ((U2 : w.heap.size ≤ n0)); have H0 := am ((U2 : w.heap.size ≤ n0)); replace I := am (T0 (qB I.out) G); clear G M0 hg) | ((with_reducible refine P2 (N := 6) rfl ?_); refine D3 ?hg (N := 6) ?hd (cs := #[.int .i64 0, .int .i64 0, .int .i64 0, .int .i64 0, .int .i64 0, .string (⟨#[]⟩ : ByteArray)]) (t := 28) ?hr ?_; (case hd => rfl); (case hg => rfl); (case hr => exact Z2); intro K0 hg nA M0 G; have o0 := am (M0); have YA := am ((J7 : w.heap.size ≤ K0)); have Q0 := am ((J7 : w.heap.size ≤ K0)); replace I := am (T0 (S0 H0 I.out) G); have X5 := am ((V7 : n0 ≠ K0)); have l5 := am ((X7 : K0 ≠ n0)); replace Y := am (O0 (bq Y.out) G); clear G M0 hg) | ((with_reducible refine H2 (f := 74) rfl ?_); refine G2 (some 16) rfl rfl Try.func74 (by kernel_rfl) rfl #[.string a0, .int .i64 a1] rfl F2 ?_; (with_reducible refine (QF.calls a0 a1 t103 t104 _ A4.out).mono ?_); rintro e w' ⟨rfl, ⟨nd, rfl⟩⟩; refine ⟨_, rfl, ?_⟩; (try (rw [NE nA]; generalize n6 : World.drewN nA _ = nA; have N2 : Aside0 (nA.heap[n0]? = some (.cells #[.int .i64 Y4, .int .i64 Z3, .int .i64 E6, .int .i64 q_, .int .i64 W8, .string T_] 28 (0, 0))) := ⟨DE⟩; have R2 : Aside0 (nA.heap[K0]? = some (.cells #[.int .i64 0, .int .i64 0, .int .i64 0, .int .i64 0, .int .i64 0, .string (⟨#[]⟩ : ByteArray)] 28 (0, 0))) := ⟨pL⟩; have E3 : Aside0 (Below w.heap.size w nA) := ⟨rP⟩; clear Y o0 I n6; have Y := N2; have o0 := R2; have I := E3; clear N2 R2 E3)); have bq0 := X5.out; have ce1 := l5.out; obtain ⟨dL, oK, IK, WT, CW, ZW, AK, mL, dK, SR, PV, QW⟩ := S1 Y.out; obtain ⟨Dh, Nc, Je, bx6, bz9, cb8, Md, Eb, Jd, cj5, bm4, ba1⟩ := S1 o0.out)); refine bodyPost_ret (wG rfl _ _ K0 28 #[.int .i64 Y4, .int .i64 Z3, .int .i64 E6, .int .i64 t103, .int .i64 W8, .string T_] (0, 0) _ rfl (by refine bq ?_; refine J0 (cs := #[.int .i64 Y4, .int .i64 Z3, .int .i64 E6, .int .i64 t103, .int .i64 W8, .string (⟨#[]⟩ : ByteArray)]) ?_ 5 _ rfl; refine bq ?_; refine J0 (cs := #[.int .i64 Y4, .int .i64 Z3, .int .i64 E6, .int .i64 t103, .int .i64 0, .string (⟨#[]⟩ : ByteArray)]) ?_ 4 _ rfl; refine bq ?_; refine J0 (cs := #[.int .i64 Y4, .int .i64 Z3, .int .i64 E6, .int .i64 0, .int .i64 0, .string (⟨#[]⟩ : ByteArray)]) ?_ 3 _ rfl; refine bq ?_; refine J0 (cs := #[.int .i64 Y4, .int .i64 Z3, .int .i64 0, .int .i64 0, .int .i64 0, .string (⟨#[]⟩ : ByteArray)]) ?_ 2 _ rfl; refine bq ?_; refine J0 (cs := #[.int .i64 Y4, .int .i64 0, .int .i64 0, .int .i64 0, .int .i64 0, .string (⟨#[]⟩ : ByteArray)]) ?_ 1 _ rfl; refine bq ?_; refine J0 (cs := #[.int .i64 0, .int .i64 0, .int .i64 0, .int .i64 0, .int .i64 0, .string (⟨#[]⟩ : ByteArray)]) ?_ 0 _ rfl; refine bq ?_; refine P0 ?_ l5.out _; exact bq o0.out) Try.underlying28 rfl (by kernel_rfl)) rfl ?_; exact ⟨by rfl, X2 H0 Q0 I.out⟩
 rw [if_neg O6] at H; have JI : (Z3 == 13) = false := beq_eq_false_iff_ne.mpr O6; have XT : (Z3 != 13) = true := bne_iff_ne.mpr O6; replace H := L2 H; obtain ⟨⟨t105, t106⟩, JT, H⟩ := H; have Fe := am JT; clear JT; simp only [Option.some.injEq, Prod.mk.injEq] at H; obtain ⟨rfl, rfl, rfl, rfl, rfl, rfl, rfl, rfl⟩ := H; go_enter Try.func68, Try.ntmps68; go_wp2_with (first | ((with_reducible refine P2 (N := 5) rfl ?_); refine D3 ?hg (N := 5) ?hd (cs := #[.int .i64 Y4, .int .i64 Z3, .int .i64 E6, .int .i64 q_, .int .i64 W8, .string T_]) (t := 28) ?hr ?_; (case hd => rfl); (case hg => rfl); (case hr => exact Z2); intro n0 hg R5 M0 G; have Y := am (M0); have W6 := am ((U2 : w.heap.size ≤ n0)); have H0 := am ((U2 : w.heap.size ≤ n0)); replace I := am (T0 (qB I.out) G); clear G M0 hg) | ((with_reducible refine P2 (N := 6) rfl ?_); refine D3 ?hg (N := 6) ?hd (cs := #[.int .i64 0, .int .i64 0, .int .i64 0, .int .i64 0, .int .i64 0, .string (⟨#[]⟩ : ByteArray)]) (t := 28) ?hr ?_; (case hd => rfl); (case hg => rfl); (case hr => exact Z2); intro K0 hg E4 M0 G; have o0 := am (M0); have YA := am ((J7 : w.heap.size ≤ K0)); have Q0 := am ((J7 : w.heap.size ≤ K0)); replace I := am (T0 (S0 H0 I.out) G); have X5 := am ((V7 : n0 ≠ K0)); have l5 := am ((X7 : K0 ≠ n0)); replace Y := am (O0 (bq Y.out) G); clear G M0 hg) | ((with_reducible refine H2 (f := 74) rfl ?_); refine G2 (some 16) rfl rfl Try.func74 (by kernel_rfl) rfl #[.string a0, .int .i64 a1] rfl F2 ?_; (with_reducible refine (QF.calls a0 a1 t103 t104 _ A4.out).mono ?_); rintro e w' ⟨rfl, ⟨nd, rfl⟩⟩; refine ⟨_, rfl, ?_⟩; (try (rw [NE E4]; generalize n6 : World.drewN E4 _ = E4; have N2 : Aside0 (E4.heap[n0]? = some (.cells #[.int .i64 Y4, .int .i64 Z3, .int .i64 E6, .int .i64 q_, .int .i64 W8, .string T_] 28 (0, 0))) := ⟨DE⟩; have R2 : Aside0 (E4.heap[K0]? = some (.cells #[.int .i64 0, .int .i64 0, .int .i64 0, .int .i64 0, .int .i64 0, .string (⟨#[]⟩ : ByteArray)] 28 (0, 0))) := ⟨pL⟩; have E3 : Aside0 (Below w.heap.size w E4) := ⟨rP⟩; clear Y o0 I n6; have Y := N2; have o0 := R2; have I := E3; clear N2 R2 E3)); have eo1 := X5.out; have eu9 := l5.out; obtain ⟨Qu, Sp, ae0, Ww, Jr, Dq, aa7, Dw, ad2, Yn, Bs, Uu⟩ := S1 Y.out) | ((with_reducible refine H2 (f := 74) rfl ?_); refine G2 (some 40) rfl rfl Try.func74 (by kernel_rfl) rfl #[.string a0, .int .i64 (wrap64 (a1 + 1))] rfl F2 ?_; (with_reducible refine (QF.calls a0 (wrap64 (a1 + 1)) t105 t106 _ Fe.out).mono ?_); rintro e w' ⟨rfl, ⟨nd, rfl⟩⟩; refine ⟨_, rfl, ?_⟩; obtain ⟨XX, jW, nY, bd0, eu1, fg6, ZX, CX, IV, aw7, dq4, dp2⟩ := S1 o0.out)); refine bodyPost_ret (wG rfl _ _ K0 28 #[.int .i64 Y4, .int .i64 Z3, .int .i64 E6, .int .i64 t103, .int .i64 t105, .string T_] (0, 0) _ rfl (by refine bq ?_; refine J0 (cs := #[.int .i64 Y4, .int .i64 Z3, .int .i64 E6, .int .i64 t103, .int .i64 t105, .string (⟨#[]⟩ : ByteArray)]) ?_ 5 _ rfl; refine bq ?_; refine J0 (cs := #[.int .i64 Y4, .int .i64 Z3, .int .i64 E6, .int .i64 t103, .int .i64 0, .string (⟨#[]⟩ : ByteArray)]) ?_ 4 _ rfl; refine bq ?_; refine J0 (cs := #[.int .i64 Y4, .int .i64 Z3, .int .i64 E6, .int .i64 0, .int .i64 0, .string (⟨#[]⟩ : ByteArray)]) ?_ 3 _ rfl; refine bq ?_; refine J0 (cs := #[.int .i64 Y4, .int .i64 Z3, .int .i64 0, .int .i64 0, .int .i64 0, .string (⟨#[]⟩ : ByteArray)]) ?_ 2 _ rfl; refine bq ?_; refine J0 (cs := #[.int .i64 Y4, .int .i64 0, .int .i64 0, .int .i64 0, .int .i64 0, .string (⟨#[]⟩ : ByteArray)]) ?_ 1 _ rfl; refine bq ?_; refine J0 (cs := #[.int .i64 0, .int .i64 0, .int .i64 0, .int .i64 0, .int .i64 0, .string (⟨#[]⟩ : ByteArray)]) ?_ 0 _ rfl; refine bq ?_; refine P0 ?_ l5.out _; refine bq ?_; refine P0 ?_ l5.out _; exact bq o0.out) Try.underlying28 rfl (by kernel_rfl)) rfl ?_; exact ⟨by rfl, X2 H0 Q0 I.out⟩
def AG.f (k : Nat) (a0 : ByteArray) (a1 : Int) : Option (ByteArray × Int × Int) := (z7.f k a0 a1).bind fun O3 => (if O3.2.2 = 0 then (if O3.1 > 100000 then (some ((⟨#[]⟩ : ByteArray), 0, 151)) else (if (wrap64 (O3.2.1 + O3.1)) > (a0.size : Int) then (some ((⟨#[]⟩ : ByteArray), 0, 152)) else (if 0 ≤ O3.2.1 then (if O3.2.1 ≤ (wrap64 (O3.2.1 + O3.1)) then (if (wrap64 (O3.2.1 + O3.1)) ≤ (a0.size : Int) then (some (a0.extract (O3.2.1 : Int).toNat ((wrap64 (O3.2.1 + O3.1)) : Int).toNat, wrap64 (O3.2.1 + O3.1), 0)) else (none)) else (none)) else (none)))) else (some ((⟨#[]⟩ : ByteArray), 0, O3.2.2)))
theorem AG.mono : ∀ a0 a1 k, F0 (AG.f k a0 a1) (AG.f (k + 1) a0 a1) := by
 intro a0 a1 k
 unfold AG.f
 repeat' first
  | (with_reducible exact z7.mono _ _ _)
  | (with_reducible exact F0.refl _)
  | (with_reducible exact F0.none _)
  | (with_reducible refine F0.ite ?_ ?_)
  | (with_reducible refine F0.bind ?_ (fun _ => ?_))
  | exact z7.mono _ _ _
  | exact F0.none _
  | refine F0.ite ?_ ?_
  | refine F0.bind ?_ (fun _ => ?_)
set_option maxHeartbeats 8000000 in
set_option maxRecDepth 100000 in
theorem AG.calls (k : Nat) (a0 : ByteArray) (a1 : Int) (r1 : ByteArray) (r2 : Int) (r3 : Int) (w : World) (h : AG.f k a0 a1 = some (r1, r2, r3)) :
 Calls Try.prog 75 #[.string a0, .int .i64 a1] w fun e w' => e = .returned (.tuple #[.string r1, .int .i64 r2, .int .i64 r3]) ∧ E_ w w' := by
 have H := h; unfold AG.f at H; clear h; replace H := L2 H; obtain ⟨⟨t101, t102, t103⟩, Q_, H⟩ := H; try dsimp -simprocs only at H
 have A3 := am Q_; clear Q_; by_cases c4 : t103 = 0; rotate_left
 ·rw [if_neg c4] at H; have T7 : (t103 == 0) = false := beq_eq_false_iff_ne.mpr c4; have RE : (t103 != 0) = true := bne_iff_ne.mpr c4; simp only [Option.some.injEq, Prod.mk.injEq] at H; obtain ⟨rfl, rfl, rfl⟩ := H; go_enter Try.func75, Try.ntmps75; go_wp2_with (((with_reducible refine H2 (f := 67) rfl ?_); refine G2 (some 13) rfl rfl Try.func67 (by kernel_rfl) rfl #[.string a0, .int .i64 a1] rfl L9 ?_; (with_reducible refine (z7.calls k a0 a1 t101 t102 t103 _ A3.out).mono ?_); rintro e w' ⟨rfl, ⟨nd, rfl⟩⟩; refine ⟨_, rfl, ?_⟩)); go_ret3; exact ⟨o6, F5⟩
 rw [if_pos c4] at H; have T7 : (t103 == 0) = true := beq_iff_eq.mpr c4; have RE : (t103 != 0) = false := bne_eq_false_iff_eq.mpr c4; clear c4; by_cases c5 : t101 > 100000
 ·rw [if_pos c5] at H; have qC : decide (100000 < t101) = true := decide_eq_true c5; clear c5; simp only [Option.some.injEq, Prod.mk.injEq] at H; obtain ⟨rfl, rfl, rfl⟩ := H; go_enter Try.func75, Try.ntmps75; go_wp2_with (((with_reducible refine H2 (f := 67) rfl ?_); refine G2 (some 13) rfl rfl Try.func67 (by kernel_rfl) rfl #[.string a0, .int .i64 a1] rfl L9 ?_; (with_reducible refine (z7.calls k a0 a1 t101 t102 t103 _ A3.out).mono ?_); rintro e w' ⟨rfl, ⟨nd, rfl⟩⟩; refine ⟨_, rfl, ?_⟩)); go_ret3; exact ⟨o6, F5⟩
 rw [if_neg c5] at H; have qC : decide (100000 < t101) = false := decide_eq_false c5; clear c5; by_cases c6 : (wrap64 (t102 + t101)) > (a0.size : Int)
 ·rw [if_pos c6] at H; have cC : decide ((a0.size : Int) < (wrap64 (t102 + t101))) = true := decide_eq_true c6; clear c6; simp only [Option.some.injEq, Prod.mk.injEq] at H; obtain ⟨rfl, rfl, rfl⟩ := H; go_enter Try.func75, Try.ntmps75; go_wp2_with (((with_reducible refine H2 (f := 67) rfl ?_); refine G2 (some 13) rfl rfl Try.func67 (by kernel_rfl) rfl #[.string a0, .int .i64 a1] rfl L9 ?_; (with_reducible refine (z7.calls k a0 a1 t101 t102 t103 _ A3.out).mono ?_); rintro e w' ⟨rfl, ⟨nd, rfl⟩⟩; refine ⟨_, rfl, ?_⟩)); go_ret3; exact ⟨o6, F5⟩
 rw [if_neg c6] at H; have cC : decide ((a0.size : Int) < (wrap64 (t102 + t101))) = false := decide_eq_false c6; clear c6; by_cases c7 : 0 ≤ t102; rotate_left
 ·rw [if_neg c7] at H; exact absurd H (by simp)
 rw [if_pos c7] at H; have lC := eq_true c7; have zL : decide (0 ≤ t102) = true := decide_eq_true c7; clear c7; by_cases c8 : t102 ≤ (wrap64 (t102 + t101)); rotate_left
 ·rw [if_neg c8] at H; exact absurd H (by simp)
 rw [if_pos c8] at H; have JG := eq_true c8; have GR : decide (t102 ≤ (wrap64 (t102 + t101))) = true := decide_eq_true c8; by_cases c9 : (wrap64 (t102 + t101)) ≤ (a0.size : Int); rotate_left
 ·rw [if_neg c9] at H; exact absurd H (by simp)
 rw [if_pos c9] at H; have xH := eq_true c9; have JP : decide ((wrap64 (t102 + t101)) ≤ (a0.size : Int)) = true := decide_eq_true c9; simp only [Option.some.injEq, Prod.mk.injEq] at H; obtain ⟨rfl, rfl, rfl⟩ := H; go_enter Try.func75, Try.ntmps75; go_wp2_with (((with_reducible refine H2 (f := 67) rfl ?_); refine G2 (some 13) rfl rfl Try.func67 (by kernel_rfl) rfl #[.string a0, .int .i64 a1] rfl L9 ?_; (with_reducible refine (z7.calls k a0 a1 t101 t102 t103 _ A3.out).mono ?_); rintro e w' ⟨rfl, ⟨nd, rfl⟩⟩; refine ⟨_, rfl, ?_⟩)); go_ret3; exact ⟨o6, F5⟩
def zG.f (k : Nat) (a0 : ByteArray) (a1 : Int) (Y4 : Int) (Z3 : Int) (E6 : Int) (q_ : Int) (W8 : Int) (T_ : ByteArray) : Option (Int × Int × Int × Int × Int × ByteArray × Int × Int) := if Z3 = 16 then ((QF.f a0 a1).bind fun cK => (if cK.2 = 0 then ((AG.f k a0 (wrap64 (a1 + 1))).bind fun mE => (some (Y4, Z3, E6, cK.1, W8, mE.1, mE.2.1, mE.2.2))) else (some (Y4, Z3, E6, q_, W8, T_, 0, cK.2)))) else ((AG.f k a0 a1).bind fun N6 => (some (Y4, Z3, E6, q_, W8, N6.1, N6.2.1, N6.2.2)))
theorem zG.mono : ∀ a0 a1 a2 a3 a4 a5 a6 a7 k, F0 (zG.f k a0 a1 a2 a3 a4 a5 a6 a7) (zG.f (k + 1) a0 a1 a2 a3 a4 a5 a6 a7) := by
 intro a0 a1 a2 a3 a4 a5 a6 a7 k
 unfold zG.f
 repeat' with_reducible first
  | apply AG.mono
  | apply F0.refl
  | refine F0.ite ?_ ?_
  | refine F0.bind ?_ (fun _ => ?_)
set_option maxHeartbeats 8000000 in
set_option maxRecDepth 100000 in
theorem zG.calls (k : Nat) (a0 : ByteArray) (a1 : Int) (Y4 : Int) (Z3 : Int) (E6 : Int) (q_ : Int) (W8 : Int) (T_ : ByteArray) (r1 : Int) (r2 : Int) (r3 : Int) (r4 : Int) (r5 : Int) (r6 : ByteArray) (r7 : Int) (r8 : Int) (w : World) (h : zG.f k a0 a1 Y4 Z3 E6 q_ W8 T_ = some (r1, r2, r3, r4, r5, r6, r7, r8)) :
 Calls Try.prog 69 #[.string a0, .int .i64 a1, .agg #[.int .i64 Y4, .int .i64 Z3, .int .i64 E6, .int .i64 q_, .int .i64 W8, .string T_]] w fun e w' => e = .returned (.tuple #[.agg #[.int .i64 r1, .int .i64 r2, .int .i64 r3, .int .i64 r4, .int .i64 r5, .string r6], .int .i64 r7, .int .i64 r8]) ∧ Below w.heap.size w w' := by
 have WB := Try.underlying28; have I := am (Below.refl w.heap.size w); have H := h; unfold zG.f at H; clear h; by_cases c4 : Z3 = 16; rotate_left
 ·rw [if_neg c4] at H; have T7 : (Z3 == 16) = false := beq_eq_false_iff_ne.mpr c4; have RE : (Z3 != 16) = true := bne_iff_ne.mpr c4; replace H := L2 H; obtain ⟨⟨t108, t109, t110⟩, Xp, H⟩ := H; have f_ := am Xp; clear Xp; simp only [Option.some.injEq, Prod.mk.injEq] at H; obtain ⟨rfl, rfl, rfl, rfl, rfl, rfl, rfl, rfl⟩ := H; go_enter Try.func69, Try.ntmps69; go_wp2_with (first | ((with_reducible refine P2 (N := 5) rfl ?_); refine D3 ?hg (N := 5) ?hd (cs := #[.int .i64 Y4, .int .i64 Z3, .int .i64 E6, .int .i64 q_, .int .i64 W8, .string T_]) (t := 28) ?hr ?_; (case hd => rfl); (case hg => rfl); (case hr => exact Z2); intro n0 hg LB M0 G; have Y := am (M0); have W6 := am ((U2 : w.heap.size ≤ n0)); have H0 := am ((U2 : w.heap.size ≤ n0)); replace I := am (T0 (qB I.out) G); clear G M0 hg) | ((with_reducible refine P2 (N := 6) rfl ?_); refine D3 ?hg (N := 6) ?hd (cs := #[.int .i64 0, .int .i64 0, .int .i64 0, .int .i64 0, .int .i64 0, .string (⟨#[]⟩ : ByteArray)]) (t := 28) ?hr ?_; (case hd => rfl); (case hg => rfl); (case hr => exact Z2); intro K0 hg PQ M0 G; have o0 := am (M0); have YA := am ((J7 : w.heap.size ≤ K0)); have Q0 := am ((J7 : w.heap.size ≤ K0)); replace I := am (T0 (S0 H0 I.out) G); have X5 := am ((V7 : n0 ≠ K0)); have l5 := am ((X7 : K0 ≠ n0)); replace Y := am (O0 (bq Y.out) G); clear G M0 hg; have et7 := X5.out; have eb4 := l5.out; obtain ⟨Rc, XZ, Ga, ce9, bs9, bf9, Kh, Bd, Ed, cb7, bl6, br2⟩ := S1 Y.out) | ((with_reducible refine H2 (f := 75) rfl ?_); refine G2 (some 34) rfl rfl Try.func75 (by kernel_rfl) rfl #[.string a0, .int .i64 a1] rfl F2 ?_; (with_reducible refine (AG.calls k a0 a1 t108 t109 t110 _ f_.out).mono ?_); rintro e w' ⟨rfl, ⟨nd, rfl⟩⟩; refine ⟨_, rfl, ?_⟩; (try (rw [NE PQ]; generalize n6 : World.drewN PQ _ = PQ; have N2 : Aside0 (PQ.heap[n0]? = some (.cells #[.int .i64 Y4, .int .i64 Z3, .int .i64 E6, .int .i64 q_, .int .i64 W8, .string T_] 28 (0, 0))) := ⟨DE⟩; have R2 : Aside0 (PQ.heap[K0]? = some (.cells #[.int .i64 0, .int .i64 0, .int .i64 0, .int .i64 0, .int .i64 0, .string (⟨#[]⟩ : ByteArray)] 28 (0, 0))) := ⟨pL⟩; have E3 : Aside0 (Below w.heap.size w PQ) := ⟨rP⟩; clear Y o0 I n6; have Y := N2; have o0 := R2; have I := E3; clear N2 R2 E3)); obtain ⟨EX, pY, kY, Hh, fn3, fr0, bW, DY, wY, Lg, dn1, dz0⟩ := S1 Y.out; obtain ⟨vY, RV, mY, Gk, Wo, Uq, mX, rY, SV, Sc, Zn, ab0⟩ := S1 o0.out)); refine bodyPost_ret (wG rfl _ _ K0 28 #[.int .i64 Y4, .int .i64 Z3, .int .i64 E6, .int .i64 q_, .int .i64 W8, .string t108] (0, 0) _ rfl (by refine bq ?_; refine J0 (cs := #[.int .i64 Y4, .int .i64 Z3, .int .i64 E6, .int .i64 q_, .int .i64 W8, .string (⟨#[]⟩ : ByteArray)]) ?_ 5 _ rfl; refine bq ?_; refine J0 (cs := #[.int .i64 Y4, .int .i64 Z3, .int .i64 E6, .int .i64 q_, .int .i64 0, .string (⟨#[]⟩ : ByteArray)]) ?_ 4 _ rfl; refine bq ?_; refine J0 (cs := #[.int .i64 Y4, .int .i64 Z3, .int .i64 E6, .int .i64 0, .int .i64 0, .string (⟨#[]⟩ : ByteArray)]) ?_ 3 _ rfl; refine bq ?_; refine J0 (cs := #[.int .i64 Y4, .int .i64 Z3, .int .i64 0, .int .i64 0, .int .i64 0, .string (⟨#[]⟩ : ByteArray)]) ?_ 2 _ rfl; refine bq ?_; refine J0 (cs := #[.int .i64 Y4, .int .i64 0, .int .i64 0, .int .i64 0, .int .i64 0, .string (⟨#[]⟩ : ByteArray)]) ?_ 1 _ rfl; refine bq ?_; refine J0 (cs := #[.int .i64 0, .int .i64 0, .int .i64 0, .int .i64 0, .int .i64 0, .string (⟨#[]⟩ : ByteArray)]) ?_ 0 _ rfl; refine bq ?_; refine P0 ?_ l5.out _; exact bq o0.out) Try.underlying28 rfl (by kernel_rfl)) rfl ?_; exact ⟨by rfl, X2 H0 Q0 I.out⟩
 rw [if_pos c4] at H; have T7 : (Z3 == 16) = true := beq_iff_eq.mpr c4; have RE : (Z3 != 16) = false := bne_eq_false_iff_eq.mpr c4; clear c4; replace H := L2 H; obtain ⟨⟨t103, t104⟩, v_, H⟩ := H; have A5 := am v_; clear v_; by_cases c6 : t104 = 0; rotate_left
 ·rw [if_neg c6] at H; have cC : (t104 == 0) = false := beq_eq_false_iff_ne.mpr c6; have CH : (t104 != 0) = true := bne_iff_ne.mpr c6; simp only [Option.some.injEq, Prod.mk.injEq] at H; obtain ⟨rfl, rfl, rfl, rfl, rfl, rfl, rfl, rfl⟩ := H; go_enter Try.func69, Try.ntmps69; go_wp2_with (first | ((with_reducible refine P2 (N := 5) rfl ?_); refine D3 ?hg (N := 5) ?hd (cs := #[.int .i64 Y4, .int .i64 Z3, .int .i64 E6, .int .i64 q_, .int .i64 W8, .string T_]) (t := 28) ?hr ?_; (case hd => rfl); (case hg => rfl); (case hr => exact Z2); intro n0 hg nA M0 G; have Y := am (M0); have W6 := am ((U2 : w.heap.size ≤ n0)); have H0 := am ((U2 : w.heap.size ≤ n0)); replace I := am (T0 (qB I.out) G); clear G M0 hg) | ((with_reducible refine P2 (N := 6) rfl ?_); refine D3 ?hg (N := 6) ?hd (cs := #[.int .i64 0, .int .i64 0, .int .i64 0, .int .i64 0, .int .i64 0, .string (⟨#[]⟩ : ByteArray)]) (t := 28) ?hr ?_; (case hd => rfl); (case hg => rfl); (case hr => exact Z2); intro K0 hg FD M0 G; have o0 := am (M0); have YA := am ((J7 : w.heap.size ≤ K0)); have Q0 := am ((J7 : w.heap.size ≤ K0)); replace I := am (T0 (S0 H0 I.out) G); have X5 := am ((V7 : n0 ≠ K0)); have l5 := am ((X7 : K0 ≠ n0)); replace Y := am (O0 (bq Y.out) G); clear G M0 hg; have Lw := X5.out; have Rs := l5.out; obtain ⟨Dh, Nc, Je, bx6, bz9, cb8, Md, Eb, Jd, cj5, bm4, ba1⟩ := S1 Y.out) | ((with_reducible refine H2 (f := 74) rfl ?_); refine G2 (some 20) rfl rfl Try.func74 (by kernel_rfl) rfl #[.string a0, .int .i64 a1] rfl F2 ?_; (with_reducible refine (QF.calls a0 a1 t103 t104 _ A5.out).mono ?_); rintro e w' ⟨rfl, ⟨nd, rfl⟩⟩; refine ⟨_, rfl, ?_⟩; (try (rw [NE FD]; generalize n6 : World.drewN FD _ = FD; have N2 : Aside0 (FD.heap[n0]? = some (.cells #[.int .i64 Y4, .int .i64 Z3, .int .i64 E6, .int .i64 q_, .int .i64 W8, .string T_] 28 (0, 0))) := ⟨DE⟩; have R2 : Aside0 (FD.heap[K0]? = some (.cells #[.int .i64 0, .int .i64 0, .int .i64 0, .int .i64 0, .int .i64 0, .string (⟨#[]⟩ : ByteArray)] 28 (0, 0))) := ⟨pL⟩; have E3 : Aside0 (Below w.heap.size w FD) := ⟨rP⟩; clear Y o0 I n6; have Y := N2; have o0 := R2; have I := E3; clear N2 R2 E3)); obtain ⟨wN, JO, qO, uT, Fv, Ao, NN, lO, tN, nS, Hq, ab3⟩ := S1 Y.out; obtain ⟨AP, dQ, KQ, Lj, Tr, Cz, VP, AQ, aQ, Yj, Tp, Ky⟩ := S1 o0.out)); refine bodyPost_ret (wG rfl _ _ K0 28 #[.int .i64 Y4, .int .i64 Z3, .int .i64 E6, .int .i64 q_, .int .i64 W8, .string T_] (0, 0) _ rfl (by refine bq ?_; refine J0 (cs := #[.int .i64 Y4, .int .i64 Z3, .int .i64 E6, .int .i64 q_, .int .i64 W8, .string (⟨#[]⟩ : ByteArray)]) ?_ 5 _ rfl; refine bq ?_; refine J0 (cs := #[.int .i64 Y4, .int .i64 Z3, .int .i64 E6, .int .i64 q_, .int .i64 0, .string (⟨#[]⟩ : ByteArray)]) ?_ 4 _ rfl; refine bq ?_; refine J0 (cs := #[.int .i64 Y4, .int .i64 Z3, .int .i64 E6, .int .i64 0, .int .i64 0, .string (⟨#[]⟩ : ByteArray)]) ?_ 3 _ rfl; refine bq ?_; refine J0 (cs := #[.int .i64 Y4, .int .i64 Z3, .int .i64 0, .int .i64 0, .int .i64 0, .string (⟨#[]⟩ : ByteArray)]) ?_ 2 _ rfl; refine bq ?_; refine J0 (cs := #[.int .i64 Y4, .int .i64 0, .int .i64 0, .int .i64 0, .int .i64 0, .string (⟨#[]⟩ : ByteArray)]) ?_ 1 _ rfl; refine bq ?_; refine J0 (cs := #[.int .i64 0, .int .i64 0, .int .i64 0, .int .i64 0, .int .i64 0, .string (⟨#[]⟩ : ByteArray)]) ?_ 0 _ rfl; exact bq o0.out) Try.underlying28 rfl (by kernel_rfl)) rfl ?_; exact ⟨by rfl, X2 H0 Q0 I.out⟩
 rw [if_pos c6] at H; have cC : (t104 == 0) = true := beq_iff_eq.mpr c6; have CH : (t104 != 0) = false := bne_eq_false_iff_eq.mpr c6; clear c6; replace H := L2 H; obtain ⟨⟨t105, t106, t107⟩, nI, H⟩ := H; have A7 := am nI; clear nI; simp only [Option.some.injEq, Prod.mk.injEq] at H; obtain ⟨rfl, rfl, rfl, rfl, rfl, rfl, rfl, rfl⟩ := H; go_enter Try.func69, Try.ntmps69; go_wp2_with (first | ((with_reducible refine P2 (N := 5) rfl ?_); refine D3 ?hg (N := 5) ?hd (cs := #[.int .i64 Y4, .int .i64 Z3, .int .i64 E6, .int .i64 q_, .int .i64 W8, .string T_]) (t := 28) ?hr ?_; (case hd => rfl); (case hg => rfl); (case hr => exact Z2); intro n0 hg w8 M0 G; have Y := am (M0); have W6 := am ((U2 : w.heap.size ≤ n0)); have H0 := am ((U2 : w.heap.size ≤ n0)); replace I := am (T0 (qB I.out) G); clear G M0 hg) | ((with_reducible refine P2 (N := 6) rfl ?_); refine D3 ?hg (N := 6) ?hd (cs := #[.int .i64 0, .int .i64 0, .int .i64 0, .int .i64 0, .int .i64 0, .string (⟨#[]⟩ : ByteArray)]) (t := 28) ?hr ?_; (case hd => rfl); (case hg => rfl); (case hr => exact Z2); intro K0 hg w9 M0 G; have o0 := am (M0); have YA := am ((J7 : w.heap.size ≤ K0)); have Q0 := am ((J7 : w.heap.size ≤ K0)); replace I := am (T0 (S0 H0 I.out) G); have X5 := am ((V7 : n0 ≠ K0)); have l5 := am ((X7 : K0 ≠ n0)); replace Y := am (O0 (bq Y.out) G); clear G M0 hg; have cj4 := X5.out; have by5 := l5.out; obtain ⟨NU, JU, YU, LW, AX, SW, aU, gT, XR, WW, OV, cY⟩ := S1 Y.out) | ((with_reducible refine H2 (f := 74) rfl ?_); refine G2 (some 20) rfl rfl Try.func74 (by kernel_rfl) rfl #[.string a0, .int .i64 a1] rfl F2 ?_; (with_reducible refine (QF.calls a0 a1 t103 t104 _ A5.out).mono ?_); rintro e w' ⟨rfl, ⟨nd, rfl⟩⟩; refine ⟨_, rfl, ?_⟩; (try (rw [NE w9]; generalize n6 : World.drewN w9 _ = w9; have N2 : Aside0 (w9.heap[n0]? = some (.cells #[.int .i64 Y4, .int .i64 Z3, .int .i64 E6, .int .i64 q_, .int .i64 W8, .string T_] 28 (0, 0))) := ⟨DE⟩; have R2 : Aside0 (w9.heap[K0]? = some (.cells #[.int .i64 0, .int .i64 0, .int .i64 0, .int .i64 0, .int .i64 0, .string (⟨#[]⟩ : ByteArray)] 28 (0, 0))) := ⟨pL⟩; have E3 : Aside0 (Below w.heap.size w w9) := ⟨rP⟩; clear Y o0 I n6; have Y := N2; have o0 := R2; have I := E3; clear N2 R2 E3)); obtain ⟨FM, xL, EL, KT, Sw, Xu, CL, qM, FL, IT, Fq, aa9⟩ := S1 Y.out) | ((with_reducible refine H2 (f := 75) rfl ?_); refine G2 (some 34) rfl rfl Try.func75 (by kernel_rfl) rfl #[.string a0, .int .i64 (wrap64 (a1 + 1))] rfl F2 ?_; (with_reducible refine (AG.calls k a0 (wrap64 (a1 + 1)) t105 t106 t107 _ A7.out).mono ?_); rintro e w' ⟨rfl, ⟨nd, rfl⟩⟩; refine ⟨_, rfl, ?_⟩; obtain ⟨NQ, sQ, uQ, Mf, Iy, Qo, IP, ZP, GQ, Uh, ac6, ab1⟩ := S1 o0.out)); refine bodyPost_ret (wG rfl _ _ K0 28 #[.int .i64 Y4, .int .i64 Z3, .int .i64 E6, .int .i64 t103, .int .i64 W8, .string t105] (0, 0) _ rfl (by refine bq ?_; refine J0 (cs := #[.int .i64 Y4, .int .i64 Z3, .int .i64 E6, .int .i64 t103, .int .i64 W8, .string (⟨#[]⟩ : ByteArray)]) ?_ 5 _ rfl; refine bq ?_; refine J0 (cs := #[.int .i64 Y4, .int .i64 Z3, .int .i64 E6, .int .i64 t103, .int .i64 0, .string (⟨#[]⟩ : ByteArray)]) ?_ 4 _ rfl; refine bq ?_; refine J0 (cs := #[.int .i64 Y4, .int .i64 Z3, .int .i64 E6, .int .i64 0, .int .i64 0, .string (⟨#[]⟩ : ByteArray)]) ?_ 3 _ rfl; refine bq ?_; refine J0 (cs := #[.int .i64 Y4, .int .i64 Z3, .int .i64 0, .int .i64 0, .int .i64 0, .string (⟨#[]⟩ : ByteArray)]) ?_ 2 _ rfl; refine bq ?_; refine J0 (cs := #[.int .i64 Y4, .int .i64 0, .int .i64 0, .int .i64 0, .int .i64 0, .string (⟨#[]⟩ : ByteArray)]) ?_ 1 _ rfl; refine bq ?_; refine J0 (cs := #[.int .i64 0, .int .i64 0, .int .i64 0, .int .i64 0, .int .i64 0, .string (⟨#[]⟩ : ByteArray)]) ?_ 0 _ rfl; refine bq ?_; refine P0 ?_ l5.out _; refine bq ?_; refine P0 ?_ l5.out _; exact bq o0.out) Try.underlying28 rfl (by kernel_rfl)) rfl ?_; exact ⟨by rfl, X2 H0 Q0 I.out⟩
end Go.Proofs.Ytdmnknhlibaaoaa.M
