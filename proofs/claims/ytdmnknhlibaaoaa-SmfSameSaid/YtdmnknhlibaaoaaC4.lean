/- Functions and contracts printed by a program of this session (wip/tools), and texts by hand: Print, Parse, and the plain answers (part 4). -/
import Derived.Lib.SlBytesConst
import Derived.Laws.BitsLemmas
import Derived.Lib.ConvBytes
import Derived.Defers
import Derived.Recover
import Derived.Laws.Cover3
import Derived.KernelRfl
import Derived.Deep.Slices
import Derived.Deep.Fields
import Derived.ChangeSame
import Derived.ChangeArms
import Derived.OpenShut
import Derived.Test.YtdmnknhlibaaoaaCW
import Derived.Test.YtdmnknhlibaaoaaC3
import Derived.Test.YtdmnknhlibaaoaaC1
import Derived.Test.YtdmnknhlibaaoaaC2
import Derived.Test.YtdmnknhlibaaoaaC0
namespace Go.Proofs.Ytdmnknhlibaaoaa.M
open Go.RowKit Go.Proofs.YtdmnknhlibaaoaaW.PrintWords Go.Proofs.YtdmnknhlibaaoaaW.PrintLast Go.Proofs.YtdmnknhlibaaoaaW.PrintMore
set_option linter.unusedVariables false
set_option linter.unusedSimpArgs false
section
variable {s : ByteArray} {p : Int} {q : Bool} {g : Nat} {w0 w : World} {e : Ending} {w' : World}
theorem ByteEnd.yes (h : ByteEnd s p q g w0 w e w') (h1 : p < s.size) (h2 : q = true) : e = .returned (.int .i64 (bt s p)) ∧ IsS60 w0 w' g s (p + 1) ∧ Below w0.heap.size w0 w' ∧ KeepBut w w' g none := by
  obtain ⟨a, b, c | c | c⟩ := h
  · exact absurd h1 c.1
  · rw [h2] at c; cases c.2.1
  · exact ⟨c.2.2.1, c.2.2.2, a, b⟩
theorem ByteEnd.no (h : ByteEnd s p q g w0 w e w') (h1 : ¬ (p < s.size ∧ q = true)) : e = (if p < s.size then gone p 160 else gone s.size 152) ∧ Below w0.heap.size w0 w' ∧ KeepBut w w' g none := by
  obtain ⟨a, b, c | c | c⟩ := h
  · exact ⟨by rw [if_neg c.1]; exact c.2, a, b⟩
  · exact ⟨by rw [if_pos c.1]; exact c.2.2, a, b⟩
  · exact absurd ⟨c.1, c.2.1⟩ h1
end
def orB (hi lo : Int) : Int := bits BinOp.or IntKind.i64 (IntKind.i64.wrap (hi * 256)) lo
def HeadEnd (s : ByteArray) (g fb : Nat) (w0 w : World) (e : Ending) (w' : World) : Prop := Below w0.heap.size w0 w' ∧ KeepBut w w' g (some fb) ∧ ∃ x y : Int, w'.heap[fb]? = some (.cells #[.int .i64 x, .int .i64 y, .slice none 0 0] 24 (0, 0)) ∧
  (match headGo s 14 0 with
  | some (a, c) => e = gone a c
  | none => e = .returned (.int .i64 (bt s 11)) ∧ IsS60 w0 w' g s 14 ∧ x = bt s 9 ∧ y = orB (bt s 12) (bt s 13))
def nameAt (k : Nat) : Int := match k with | 0 => 77 | 1 => 84 | 2 => 104 | 3 => 100 | 7 => 6 | _ => 0
theorem name_cell {W : World} {b : Nat} {fz : Nat × Nat} (h : W.heap[b]? = some (.cells #[.int .u8 77, .int .u8 84, .int .u8 104, .int .u8 100, .int .u8 0, .int .u8 0, .int .u8 0, .int .u8 6] 5 fz)) {k : Nat} (hk : k < 8) : W.cell? ⟨b, k, none⟩ = some (.int .u8 (nameAt k)) := by
  simp only [World.cell?, h]
  rcases (show k = 0 ∨ k = 1 ∨ k = 2 ∨ k = 3 ∨ k = 4 ∨ k = 5 ∨ k = 6 ∨ k = 7 by omega) with rfl | rfl | rfl | rfl | rfl | rfl | rfl | rfl <;> rfl
theorem ok_name (s : ByteArray) {k : Nat} (hk : k < 8) : okAt s k = (bt s k == nameAt k) := by
  rcases (show k = 0 ∨ k = 1 ∨ k = 2 ∨ k = 3 ∨ k = 4 ∨ k = 5 ∨ k = 6 ∨ k = 7 by omega) with rfl | rfl | rfl | rfl | rfl | rfl | rfl | rfl <;> rfl
structure Mid (s : ByteArray) (g fb : Nat) (w0 w W : World) (i : Nat) (x y : Int) : Prop where
  st : IsS60 w0 W g s (i : Int)
  fl : W.heap[fb]? = some (.cells #[.int .i64 x, .int .i64 y, .slice none 0 0] 24 (0, 0))
  bx : W.heap[w.heap.size]? = some (.cells #[.pointer (some ⟨fb, 0, none⟩)] 62 (0, 0))
  be : Below w0.heap.size w0 W
  kp : KeepBut w W g (some fb)
  go : headGo s 14 0 = headGo s (14 - i) i
  le : (i : Int) ≤ s.size
theorem keep_row {w W : World} {g : Nat} {row : Option Nat} (h : KeepBut w W g none) : KeepBut w W g row := ⟨h.1, fun i hi hg _ => h.2 i hi hg (by simp)⟩
theorem Mid.byte {s : ByteArray} {g fb : Nat} {w0 w W W' : World} {i : Nat} {x y : Int} (h : Mid s g fb w0 w W i x y) (hi : IsS60 w0 W' g s ((i : Int) + 1)) (hb : Below w0.heap.size w0 W') (hk : KeepBut W W' g none) (hfg : fb ≠ g) (hgw : g < w.heap.size) (hi14 : i < 14) (h1 : (i : Int) < s.size) (h2 : okAt s i = true) : Mid s g fb w0 w W' (i + 1) x y := by
  refine ⟨?_, hk.blk h.fl hfg (by simp), hk.blk h.bx (by omega) (by simp), hb, h.kp.trans (keep_row hk) (.inl rfl), ?_, by omega⟩
  · have : ((i + 1 : Nat) : Int) = (i : Int) + 1 := by omega
    rw [this]; exact hi
  · rw [h.go, show 14 - i = (14 - (i + 1)) + 1 by omega, headGo, if_pos h1, if_pos h2]
theorem Mid.step {s : ByteArray} {g fb : Nat} {w0 w W W' : World} {i : Nat} {x y : Int} {q : Bool} (j : Nat) (hj : i + 1 = j) (hq : okAt s i = q) (h : Mid s g fb w0 w W i x y) (hi : IsS60 w0 W' g s ((i : Int) + 1)) (hb : Below w0.heap.size w0 W') (hk : KeepBut W W' g none) (hfg : fb ≠ g) (hgw : g < w.heap.size) (hi14 : i < 14) (h1 : (i : Int) < s.size) (h2 : q = true) : Mid s g fb w0 w W' j x y := by
  subst hj
  exact h.byte hi hb hk hfg hgw hi14 h1 (hq.trans h2)
theorem ok8 (s : ByteArray) : okAt s 8 = (bt s ((8 : Nat) : Int) == 0) := rfl
theorem ok9 (s : ByteArray) : okAt s 9 = decide (bt s ((9 : Nat) : Int) ≤ 1) := rfl
theorem ok10 (s : ByteArray) : okAt s 10 = (bt s ((10 : Nat) : Int) == 0) := rfl
theorem ok11 (s : ByteArray) : okAt s 11 = okN (bt s ((11 : Nat) : Int)) (bt s 9) := rfl
theorem ok12 (s : ByteArray) : okAt s 12 = decide (bt s ((12 : Nat) : Int) < 128) := rfl
theorem ok13 (s : ByteArray) : okAt s 13 = (decide (bt s ((13 : Nat) : Int) > 0) || decide (bt s 12 > 0)) := rfl
theorem Mid.alloc {s : ByteArray} {g fb : Nat} {w0 w W : World} {i : Nat} {x y : Int} (h : Mid s g fb w0 w W i x y) (o : Obj) (hw : w.heap.size ≤ W.heap.size) (hw0 : w0.heap.size ≤ W.heap.size) : Mid s g fb w0 w (W.alloc o) i x y :=
  ⟨h.st.alloc o, blk_alloc h.fl _, blk_alloc h.bx _, below_alloc h.be _, ⟨by simp; omega, fun k hk hg hr => by
    have e := h.kp.2 k hk hg hr
    rw [← e]
    exact Below.heap_alloc _ _ _ (by omega)⟩, h.go, h.le⟩
theorem Mid.far {s : ByteArray} {g fb : Nat} {w0 w W : World} {i : Nat} {x y : Int} (h : Mid s g fb w0 w W i x y) (b j : Nat) (v : Value) (hgw : g < w.heap.size) (hfw : fb < w.heap.size) (hw0 : w0.heap.size ≤ w.heap.size) (hb : w.heap.size < b) : Mid s g fb w0 w (W.setCell ⟨b, j, none⟩ v) i x y :=
  ⟨h.st.far (by show g ≠ b; omega) _, blk_far h.fl (by show fb ≠ b; omega) _, blk_far h.bx (by show w.heap.size ≠ b; omega) _, below_set h.be (by omega), ⟨by simpa [World.setCell] using h.kp.1, fun k hk hg hr => by
    rw [← h.kp.2 k hk hg hr]
    exact Below.heap_setCell _ _ _ _ (by show k ≠ b; omega)⟩, h.go, h.le⟩
theorem Mid.setx {s : ByteArray} {g fb : Nat} {w0 w W : World} {i : Nat} {x y : Int} (h : Mid s g fb w0 w W i x y) (v : Int) (hfw : fb < w.heap.size) (hfg : fb ≠ g) (hfb : w0.heap.size ≤ fb) : Mid s g fb w0 w (W.setCell ⟨fb, 0, none⟩ (.int .i64 v)) i v y :=
  ⟨h.st.far (by show g ≠ fb; omega) _, by simpa using blk_set h.fl 0 (.int .i64 v), blk_far h.bx (by show w.heap.size ≠ fb; omega) _, below_set h.be hfb, ⟨by simpa [World.setCell] using h.kp.1, fun k hk hg hr => by
    rw [← h.kp.2 k hk hg hr]
    exact Below.heap_setCell _ _ _ _ (by show k ≠ fb; intro e; exact hr (by rw [e]))⟩, h.go, h.le⟩
theorem Mid.sety {s : ByteArray} {g fb : Nat} {w0 w W : World} {i : Nat} {x y : Int} (h : Mid s g fb w0 w W i x y) (v : Int) (hfw : fb < w.heap.size) (hfg : fb ≠ g) (hfb : w0.heap.size ≤ fb) : Mid s g fb w0 w (W.setCell ⟨fb, 1, none⟩ (.int .i64 v)) i x v :=
  ⟨h.st.far (by show g ≠ fb; omega) _, by simpa using blk_set h.fl 1 (.int .i64 v), blk_far h.bx (by show w.heap.size ≠ fb; omega) _, below_set h.be hfb, ⟨by simpa [World.setCell] using h.kp.1, fun k hk hg hr => by
    rw [← h.kp.2 k hk hg hr]
    exact Below.heap_setCell _ _ _ _ (by show k ≠ fb; intro e; exact hr (by rw [e]))⟩, h.go, h.le⟩
theorem gone_any {c : Prop} [Decidable c] {e : Ending} {a b a' b' : Int} (h : e = if c then gone a b else gone a' b') : ∃ x y, e = gone x y := by
  split at h
  · exact ⟨_, _, h⟩
  · exact ⟨_, _, h⟩
theorem cell_of_heap {w1 W : World} (h : w1.heap = W.heap) (a : Addr) : w1.cell? a = W.cell? a := by simp only [World.cell?, h]
theorem Mid.endAt {s : ByteArray} {g fb : Nat} {w0 w W W' : World} {i : Nat} {x y : Int} {e : Ending} (h : Mid s g fb w0 w W i x y) (hb : Below w0.heap.size w0 W') (hk : KeepBut W W' g none) (hfg : fb ≠ g) (hi14 : i < 14) (h1 : ¬ ((i : Int) < s.size ∧ okAt s i = true)) (he : e = if (i : Int) < s.size then gone i 160 else gone s.size 152) : HeadEnd s g fb w0 w e W' := by
  refine ⟨hb, h.kp.trans (keep_row hk) (.inl rfl), x, y, hk.blk h.fl hfg (by simp), ?_⟩
  rw [h.go, show 14 - i = (14 - (i + 1)) + 1 by omega, headGo]
  by_cases c : (i : Int) < s.size
  · rw [if_pos c, if_neg (fun z => h1 ⟨c, z⟩)]
    rw [if_pos c] at he
    exact he
  · rw [if_neg c]
    rw [if_neg c] at he
    exact he
theorem Mid.ends {s : ByteArray} {g fb : Nat} {w0 w W W' : World} {i : Nat} {x y : Int} {q : Bool} {e : Ending} (hq : okAt s i = q) (h : Mid s g fb w0 w W i x y) (hb : Below w0.heap.size w0 W') (hk : KeepBut W W' g none) (hfg : fb ≠ g) (hi14 : i < 14) (h1 : ¬ ((i : Int) < s.size ∧ q = true)) (he : e = if (i : Int) < s.size then gone i 160 else gone s.size 152) : HeadEnd s g fb w0 w e W' := by
  rw [← hq] at h1
  exact h.endAt hb hk hfg hi14 h1 he
set_option maxHeartbeats 8000000 in
set_option maxRecDepth 100000 in
theorem head_calls (g fb : Nat) (s : ByteArray) (w0 w : World) (hI : IsS60 w0 w g s 0) (hF : w.heap[fb]? = some (.cells #[.int .i64 0, .int .i64 0, .slice none 0 0] 24 (0, 0))) (hfb : w0.heap.size ≤ fb) (hB : Below w0.heap.size w0 w) (hs : s.size ≤ 100000) :
    Calls Try.prog 32 #[.pointer (some ⟨g, 0, none⟩), .pointer (some ⟨fb, 0, none⟩)] w (HeadEnd s g fb w0 w) := by
  have hcv : (convert 39 39 (.slice (some ⟨w.heap.size + 1, 0, none⟩) 8 8)).run Try.prog ((w.alloc (.cells #[.pointer (some ⟨fb, 0, none⟩)] 62)).alloc (.cells #[.int .u8 77, .int .u8 84, .int .u8 104, .int .u8 100, .int .u8 0, .int .u8 0, .int .u8 0, .int .u8 6] 5)) =
      .ok (.slice (some ⟨w.heap.size + 1, 0, none⟩) 8 8) ((w.alloc (.cells #[.pointer (some ⟨fb, 0, none⟩)] 62)).alloc (.cells #[.int .u8 77, .int .u8 84, .int .u8 104, .int .u8 100, .int .u8 0, .int .u8 0, .int .u8 0, .int .u8 6] 5 (8, 9))) := by
    have h := Lib.run_convert_bytes_const (P := Try.prog) (w.alloc (.cells #[.pointer (some ⟨fb, 0, none⟩)] 62)) 39 5 #[.int .u8 77, .int .u8 84, .int .u8 104, .int .u8 100, .int .u8 0, .int .u8 0, .int .u8 0, .int .u8 6] 8 8 Try.underlying39 Try.underlying5
    rw [show (w.alloc (.cells #[.pointer (some ⟨fb, 0, none⟩)] 62)).heap.size = w.heap.size + 1 by simp] at h
    exact h
  have hmf : ∀ (fn : Fn) (first cap : Array Value) (w : World), (Instr.makeFunc fn first cap).run Try.prog w = .ok (.func fn first cap) w := fun _ _ _ _ => rfl
  have HI := Aside0.mk hI
  have HF := Aside0.mk hF
  have HB := Aside0.mk hB
  clear hI hF hB
  go_enter Try.func32, Try.ntmps32
  have hgw : g < w.heap.size := HI.out.lt
  have hfw : fb < w.heap.size := blk_lt HF.out
  have hfg : fb ≠ g := fun e => HI.out.ne_blk HF.out (by decide) e.symm
  have hw0 : w0.heap.size ≤ w.heap.size := HB.out.size
  go_wp2
  go_loopw [13] (fun i wr => ∃ k : Nat, k ≤ 8 ∧ i = .int .i64 (k : Int) ∧ Aside0 (Mid s g fb w0 w wr k 0 0) ∧ Aside0 (wr.heap[w.heap.size + 1]? = some (.cells #[.int .u8 77, .int .u8 84, .int .u8 104, .int .u8 100, .int .u8 0, .int .u8 0, .int .u8 0, .int .u8 6] 5 (8, 9)))) (fun i _ => 8 - (intOf i).toNat)
  case atStart =>
    refine ⟨0, by omega, rfl, ⟨⟨?_, ?_, ?_, ?_, ?_, rfl, by omega⟩⟩, ⟨?_⟩⟩
    · exact (HI.out.alloc _).alloc _
    · exact blk_alloc (blk_alloc HF.out _) _
    · exact blk_alloc (by simpa using heap_alloc_new w _) _
    · exact below_alloc (below_alloc HB.out _) _
    · exact KeepBut.of_below (below_alloc (below_alloc (Below.refl _ _) _) _) _ _
    · simpa using heap_alloc_new (w.alloc (.cells #[.pointer (some ⟨fb, 0, none⟩)] 62)) (.cells #[.int .u8 77, .int .u8 84, .int .u8 104, .int .u8 100, .int .u8 0, .int .u8 0, .int .u8 0, .int .u8 6] 5 (8, 9))
  case round =>
    clear HI HF HB hcv
    obtain ⟨k, hk, rfl, HM, HC⟩ := hrel
    by_cases hlt : k < 8
    · have hcell := name_cell HC.out hlt
      have hd : decide ((k : Int) < 8) = true := decide_eq_true (by omega)
      have hsz : w.heap.size + 1 < wr.heap.size := blk_lt HC.out
      have HM1 := Aside0.mk (HM.out.alloc (.cells #[.int .u8 (nameAt k)] 5) (by omega) (by omega))
      have HC1 := Aside0.mk (blk_alloc HC.out (.cells #[.int .u8 (nameAt k)] 5))
      have hcc : (wr.alloc (.cells #[.int .u8 (nameAt k)] 5)).cell? ⟨wr.heap.size, 0, none⟩ = some (.int .u8 (nameAt k)) := (blk_cell (show (wr.alloc (.cells #[.int .u8 (nameAt k)] 5)).heap[wr.heap.size]? = some (.cells #[.int .u8 (nameAt k)] 5 (0, 0)) by simpa using heap_alloc_new wr _) 0).trans rfl
      have HCC := Aside0.mk hcc
      clear hcc
      have HPR : 0 ≤ (k : Int) ∧ (k : Int) ≤ s.size := ⟨by omega, HM.out.le⟩
      by_cases hok : (k : Int) < s.size ∧ okAt s k = true
      · obtain ⟨ho1, ho2⟩ := hok
        have HO2 := Aside0.mk ho2
        have HO1 := Aside0.mk ho1
        clear ho1 ho2
        go_wp2_with (go_at_call 48; refine (byte_49 #[.pointer (some ⟨wr.heap.size, 0, none⟩)] (bt s k == nameAt k) g s (k : Int) w0 _ HM1.out.st HM1.out.be HPR hs (fun _ w1 hw1 => c49 _ _ _ w1 ((cell_of_heap hw1 _).trans HCC.out))).mono ?_; intro e w' hbe; obtain ⟨he, hi, hb, hkk⟩ := ByteEnd.yes hbe HO1.out (by rw [← ok_name s hlt]; exact HO2.out); subst he; have HM2 := Aside0.mk (HM1.out.byte hi hb hkk hfg hgw (by omega) HO1.out HO2.out); have HC2 := Aside0.mk (hkk.blk HC1.out (by omega) (by simp)); clear hbe hi hb hkk)
        go_roundw
        case rel => exact ⟨k + 1, by omega, by go_num, HM2, HC2⟩
        case measure => simp [intOf]; omega
      · have HOK := Aside0.mk hok
        clear hok
        go_wp2_with (go_at_call 48; refine (byte_49 #[.pointer (some ⟨wr.heap.size, 0, none⟩)] (bt s k == nameAt k) g s (k : Int) w0 _ HM1.out.st HM1.out.be HPR hs (fun _ w1 hw1 => c49 _ _ _ w1 ((cell_of_heap hw1 _).trans HCC.out))).mono ?_; intro e w' hbe; obtain ⟨he, hb, hkk⟩ := ByteEnd.no hbe (by rw [← ok_name s hlt]; exact HOK.out); have HG := Aside0.mk (HM1.out.endAt hb hkk hfg (by omega) HOK.out he); obtain ⟨a_, c_, hg_⟩ := gone_any he; clear hbe hb hkk he; simp only [gone] at hg_; subst hg_)
        exact ⟨rfl, HG.out⟩
    ·
      obtain rfl : k = 8 := by omega
      have HM8 := HM
      clear HM HC
      go_wp2_with fail
      have HPR8 : 0 ≤ ((8 : Nat) : Int) ∧ ((8 : Nat) : Int) ≤ s.size := ⟨by omega, HM8.out.le⟩
      by_cases hok : ((8 : Nat) : Int) < s.size ∧ (bt s ((8 : Nat) : Int) == 0) = true
      · have HOK := Aside0.mk hok
        clear hok
        go_at_call 48
        refine (byte_50 #[] ((bt s ((8 : Nat) : Int) == 0)) g s ((8 : Nat) : Int) w0 _ ?st ?be HPR8 hs (fun _ w1 _ => c50 _ w1)).mono ?_
        (case st => exact HM8.out.st)
        (case be => first | exact HM8.out.be | exact below_drew1 HM8.out.be)
        intro e w9 hbe
        obtain ⟨he, hi, hb, hkk⟩ := ByteEnd.yes hbe HOK.out.1 HOK.out.2
        subst he
        have HM9 := Aside0.mk (Mid.step 9 rfl (ok8 s) HM8.out hi hb hkk hfg hgw (by omega) HOK.out.1 HOK.out.2)
        clear hbe hi hb hkk HM8
        go_wp2_with fail
        have hbx := (blk_cell HM9.out.bx 0).trans rfl
        have HPR9 : 0 ≤ ((9 : Nat) : Int) ∧ ((9 : Nat) : Int) ≤ s.size := ⟨by omega, HM9.out.le⟩
        by_cases hok : ((9 : Nat) : Int) < s.size ∧ decide (bt s ((9 : Nat) : Int) ≤ 1) = true
        · have HOK := Aside0.mk hok
          clear hok
          go_region_with (first | (go_at_call 48; refine (byte_51 #[] (decide (bt s ((9 : Nat) : Int) ≤ 1)) g s ((9 : Nat) : Int) w0 _ ?st ?be HPR9 hs (fun _ w1 _ => c51 _ w1)).mono ?_; (case st => exact HM9.out.st); (case be => first | exact HM9.out.be | exact below_drew1 HM9.out.be); intro e w10 hbe; obtain ⟨he, hi, hb, hkk⟩ := ByteEnd.yes hbe HOK.out.1 HOK.out.2; subst he; have HM10 := Aside0.mk (Mid.step 10 rfl (ok9 s) HM9.out hi hb hkk hfg hgw (by omega) HOK.out.1 HOK.out.2); have hbx2 := (blk_cell HM10.out.bx 0).trans rfl; have hff := blk_frozen HM10.out.fl 0; have hfc := (blk_cell HM10.out.fl 0).trans rfl; clear hbe hi hb hkk HM9))
          all_goals
            have HMs := Aside0.mk (HM10.out.setx (bt s 9) hfw hfg hfb)
            clear HM10 hbx hbx2 hff hfc
            have HM10 := HMs
            clear HMs
            go_wp2_with fail
            have HPR10 : 0 ≤ ((10 : Nat) : Int) ∧ ((10 : Nat) : Int) ≤ s.size := ⟨by omega, HM10.out.le⟩
            by_cases hok : ((10 : Nat) : Int) < s.size ∧ (bt s ((10 : Nat) : Int) == 0) = true
            · have HOK := Aside0.mk hok
              clear hok
              go_at_call 48
              refine (byte_50 #[] ((bt s ((10 : Nat) : Int) == 0)) g s ((10 : Nat) : Int) w0 _ ?st ?be HPR10 hs (fun _ w1 _ => c50 _ w1)).mono ?_
              (case st => exact HM10.out.st)
              (case be => first | exact HM10.out.be | exact below_drew1 HM10.out.be)
              intro e w11 hbe
              obtain ⟨he, hi, hb, hkk⟩ := ByteEnd.yes hbe HOK.out.1 HOK.out.2
              subst he
              have HM11 := Aside0.mk (Mid.step 11 rfl (ok10 s) HM10.out hi hb hkk hfg hgw (by omega) HOK.out.1 HOK.out.2)
              clear hbe hi hb hkk HM10
              go_wp2_with fail
              have HPR11 : 0 ≤ ((11 : Nat) : Int) ∧ ((11 : Nat) : Int) ≤ s.size := ⟨by omega, HM11.out.le⟩
              by_cases hok : ((11 : Nat) : Int) < s.size ∧ okN (bt s ((11 : Nat) : Int)) (bt s 9) = true
              · have HOK := Aside0.mk hok
                clear hok
                go_at_call 48
                refine (byte_52 #[.pointer (some ⟨w.heap.size, 0, none⟩)] (okN (bt s ((11 : Nat) : Int)) (bt s 9)) g s ((11 : Nat) : Int) w0 _ ?st ?be HPR11 hs (fun _ w1 hw1 => c52 _ _ _ fb w1 ((cell_of_heap hw1 _).trans ((blk_cell HM11.out.bx 0).trans rfl)) ((cell_of_heap hw1 _).trans ((blk_cell HM11.out.fl 0).trans rfl)))).mono ?_
                (case st => exact HM11.out.st)
                (case be => first | exact HM11.out.be | exact below_drew1 HM11.out.be)
                intro e w12 hbe
                obtain ⟨he, hi, hb, hkk⟩ := ByteEnd.yes hbe HOK.out.1 HOK.out.2
                subst he
                have HM12 := Aside0.mk (Mid.step 12 rfl (ok11 s) HM11.out hi hb hkk hfg hgw (by omega) HOK.out.1 HOK.out.2)
                clear hbe hi hb hkk HM11
                go_wp2_with fail
                have HPR12 : 0 ≤ ((12 : Nat) : Int) ∧ ((12 : Nat) : Int) ≤ s.size := ⟨by omega, HM12.out.le⟩
                by_cases hok : ((12 : Nat) : Int) < s.size ∧ decide (bt s ((12 : Nat) : Int) < 128) = true
                · have HOK := Aside0.mk hok
                  clear hok
                  go_at_call 48
                  refine (byte_53 #[] (decide (bt s ((12 : Nat) : Int) < 128)) g s ((12 : Nat) : Int) w0 _ ?st ?be HPR12 hs (fun _ w1 _ => c53 _ w1)).mono ?_
                  (case st => exact HM12.out.st)
                  (case be => first | exact HM12.out.be | exact below_drew1 HM12.out.be)
                  intro e w13 hbe
                  obtain ⟨he, hi, hb, hkk⟩ := ByteEnd.yes hbe HOK.out.1 HOK.out.2
                  subst he
                  have HM13 := Aside0.mk (Mid.step 13 rfl (ok12 s) HM12.out hi hb hkk hfg hgw (by omega) HOK.out.1 HOK.out.2)
                  clear hbe hi hb hkk HM12
                  go_wp2_with fail
                  have hsz := blk_lt HM13.out.bx
                  have HMs := Aside0.mk (HM13.out.alloc (.cells #[.int .i64 (bt s 12)] 3) (by omega) (by omega))
                  clear HM13
                  have HM13 := HMs
                  clear HMs
                  have HH := Aside0.mk (show (w13.alloc (.cells #[.int .i64 (bt s 12)] 3)).heap[w13.heap.size]? = some (.cells #[.int .i64 (bt s 12)] 3 (0, 0)) by simpa using heap_alloc_new w13 _)
                  have hbx := (blk_cell HM13.out.bx 0).trans rfl
                  have hhc := (blk_cell HH.out 0).trans rfl
                  have HPR13 : 0 ≤ ((13 : Nat) : Int) ∧ ((13 : Nat) : Int) ≤ s.size := ⟨by omega, HM13.out.le⟩
                  by_cases hok : ((13 : Nat) : Int) < s.size ∧ (decide (bt s ((13 : Nat) : Int) > 0) || decide (bt s 12 > 0)) = true
                  · have HOK := Aside0.mk hok
                    clear hok
                    go_region_with (first | (go_at_call 48; refine (byte_54 #[.pointer (some ⟨w13.heap.size, 0, none⟩)] ((decide (bt s ((13 : Nat) : Int) > 0) || decide (bt s 12 > 0))) g s ((13 : Nat) : Int) w0 (w13.alloc (.cells #[.int .i64 (bt s 12)] 3)).drew ?st ?be HPR13 hs (fun _ w1 hw1 => c54 _ _ _ w1 ((cell_of_heap (show w1.heap = (w13.alloc (.cells #[.int .i64 (bt s 12)] 3)).heap from hw1) _).trans ((blk_cell HH.out 0).trans rfl)))).mono ?_; (case st => exact HM13.out.st); (case be => exact qqB); intro e w14 hbe; obtain ⟨he, hi, hb, hkk⟩ := ByteEnd.yes hbe HOK.out.1 HOK.out.2; subst he; have HM14 := Aside0.mk (Mid.step 14 rfl (ok13 s) HM13.out hi hb hkk hfg hgw (by omega) HOK.out.1 HOK.out.2); have hbx2 := (blk_cell HM14.out.bx 0).trans rfl; have hff := blk_frozen HM14.out.fl 1; have hfc := (blk_cell HM14.out.fl 1).trans rfl; have HH2 := Aside0.mk (hkk.blk HH.out (by omega) (by simp)); have hhc2 := (blk_cell HH2.out 0).trans rfl; clear hbe hi hb hkk HM13))
                    all_goals
                      have HMs := Aside0.mk (HM14.out.sety (orB (bt s 12) (bt s 13)) hfw hfg hfb)
                      clear HM14 hbx2 hff hfc HH2 hhc2
                      go_wp2
                      go_ret
                      exact ⟨HMs.out.be, HMs.out.kp, _, _, HMs.out.fl, by rw [show headGo s 14 0 = none from HMs.out.go]; exact ⟨rfl, HMs.out.st, rfl, rfl⟩⟩
                  · have HOK := Aside0.mk hok
                    clear hok
                    refine wp_region_any (by kernel_rfl) ?_
                    (try (change wpAny _ _ _ _ _ _ _ (World.drew _)))
                    refine wpAny_take (i := 3) (v := .pointer (some ⟨g, 0, none⟩)) rfl (by kernel_rfl) (by kernel_rfl) (by kernel_rfl) (fun _ _ _ h => h) (Or.inl ⟨by rfl, ?_⟩) ?_
                    · intro w_; go_simp
                    refine wpAny_ready (rs := [0, 1, 4]) (by kernel_rfl) (by simp) ?_
                    refine AllReady.cons rfl (fun K hK => ?_) (AllReady.cons rfl (fun K hK => ?_) (AllReady.cons rfl (fun K hK => ?_) (AllReady.nil)))
                    · go_simp
                      refine hK _ _ ?_
                      clear hK K
                      refine wpAny_ready (rs := [1, 4]) (by kernel_rfl) (by simp) ?_
                      refine AllReady.cons rfl (fun K hK => ?_) (AllReady.cons rfl (fun K hK => ?_) (AllReady.nil))
                      · go_simp
                        refine hK _ _ ?_
                        clear hK K
                        refine wpAny_take (i := 2) (v := .int .i64 (IntKind.i64.wrap (bt s 12 * 256))) rfl (by kernel_rfl) (by kernel_rfl) (by kernel_rfl) (fun _ _ _ h => h) (Or.inl ⟨by rfl, ?_⟩) ?_
                        · intro w_; go_simp
                        refine wpAny_ready (rs := [4]) (by kernel_rfl) (by simp) ?_
                        refine AllReady.cons rfl (fun K hK => ?_) (AllReady.nil)
                        · go_simp
                          refine hK _ _ ?_
                          clear hK K
                          refine wpAny_ready (rs := [5]) (by kernel_rfl) (by simp) ?_
                          refine AllReady.cons rfl (fun K hK => ?_) (AllReady.nil)
                          · go_simp
                            go_wp2_with (first | (go_at_call 48; refine (byte_54 #[.pointer (some ⟨w13.heap.size, 0, none⟩)] ((decide (bt s ((13 : Nat) : Int) > 0) || decide (bt s 12 > 0))) g s ((13 : Nat) : Int) w0 (w13.alloc (.cells #[.int .i64 (bt s 12)] 3)).drew ?st ?be HPR13 hs (fun _ w1 hw1 => c54 _ _ _ w1 ((cell_of_heap (show w1.heap = (w13.alloc (.cells #[.int .i64 (bt s 12)] 3)).heap from hw1) _).trans ((blk_cell HH.out 0).trans rfl)))).mono ?_; (case st => exact HM13.out.st); (case be => exact qqB); intro e w14 hbe; obtain ⟨he, hb, hkk⟩ := ByteEnd.no hbe HOK.out; have HG := Aside0.mk (Mid.ends (ok13 s) HM13.out hb hkk hfg (by omega) HOK.out he); obtain ⟨a_, c_, hg_⟩ := gone_any he; clear hbe hb hkk he; simp only [gone] at hg_; subst hg_))
                            exact ⟨rfl, HG.out⟩
                      · go_simp
                        refine hK _ _ ?_
                        clear hK K
                        refine wpAny_ready (rs := [1, 5]) (by kernel_rfl) (by simp) ?_
                        refine AllReady.cons rfl (fun K hK => ?_) (AllReady.cons rfl (fun K hK => ?_) (AllReady.nil))
                        · go_simp
                          refine hK _ _ ?_
                          clear hK K
                          refine wpAny_take (i := 2) (v := .int .i64 (IntKind.i64.wrap (bt s 12 * 256))) rfl (by kernel_rfl) (by kernel_rfl) (by kernel_rfl) (fun _ _ _ h => h) (Or.inl ⟨by rfl, ?_⟩) ?_
                          · intro w_; go_simp
                          refine wpAny_ready (rs := [5]) (by kernel_rfl) (by simp) ?_
                          refine AllReady.cons rfl (fun K hK => ?_) (AllReady.nil)
                          · go_simp
                            go_wp2_with (first | (go_at_call 48; refine (byte_54 #[.pointer (some ⟨w13.heap.size, 0, none⟩)] ((decide (bt s ((13 : Nat) : Int) > 0) || decide (bt s 12 > 0))) g s ((13 : Nat) : Int) w0 (w13.alloc (.cells #[.int .i64 (bt s 12)] 3)).drew ?st ?be HPR13 hs (fun _ w1 hw1 => c54 _ _ _ w1 ((cell_of_heap (show w1.heap = (w13.alloc (.cells #[.int .i64 (bt s 12)] 3)).heap from hw1) _).trans ((blk_cell HH.out 0).trans rfl)))).mono ?_; (case st => exact HM13.out.st); (case be => exact qqB); intro e w14 hbe; obtain ⟨he, hb, hkk⟩ := ByteEnd.no hbe HOK.out; have HG := Aside0.mk (Mid.ends (ok13 s) HM13.out hb hkk hfg (by omega) HOK.out he); obtain ⟨a_, c_, hg_⟩ := gone_any he; clear hbe hb hkk he; simp only [gone] at hg_; subst hg_))
                            exact ⟨rfl, HG.out⟩
                        · go_simp
                          go_wp2_with (first | (go_at_call 48; refine (byte_54 #[.pointer (some ⟨w13.heap.size, 0, none⟩)] ((decide (bt s ((13 : Nat) : Int) > 0) || decide (bt s 12 > 0))) g s ((13 : Nat) : Int) w0 (w13.alloc (.cells #[.int .i64 (bt s 12)] 3)).drew ?st ?be HPR13 hs (fun _ w1 hw1 => c54 _ _ _ w1 ((cell_of_heap (show w1.heap = (w13.alloc (.cells #[.int .i64 (bt s 12)] 3)).heap from hw1) _).trans ((blk_cell HH.out 0).trans rfl)))).mono ?_; (case st => exact HM13.out.st); (case be => exact qqB); intro e w14 hbe; obtain ⟨he, hb, hkk⟩ := ByteEnd.no hbe HOK.out; have HG := Aside0.mk (Mid.ends (ok13 s) HM13.out hb hkk hfg (by omega) HOK.out he); obtain ⟨a_, c_, hg_⟩ := gone_any he; clear hbe hb hkk he; simp only [gone] at hg_; subst hg_))
                          exact ⟨rfl, HG.out⟩
                    · go_simp
                      refine hK _ _ ?_
                      clear hK K
                      refine wpAny_take (i := 2) (v := .int .i64 (IntKind.i64.wrap (bt s 12 * 256))) rfl (by kernel_rfl) (by kernel_rfl) (by kernel_rfl) (fun _ _ _ h => h) (Or.inl ⟨by rfl, ?_⟩) ?_
                      · intro w_; go_simp
                      refine wpAny_ready (rs := [0, 4]) (by kernel_rfl) (by simp) ?_
                      refine AllReady.cons rfl (fun K hK => ?_) (AllReady.cons rfl (fun K hK => ?_) (AllReady.nil))
                      · go_simp
                        refine hK _ _ ?_
                        clear hK K
                        refine wpAny_ready (rs := [4]) (by kernel_rfl) (by simp) ?_
                        refine AllReady.cons rfl (fun K hK => ?_) (AllReady.nil)
                        · go_simp
                          refine hK _ _ ?_
                          clear hK K
                          refine wpAny_ready (rs := [5]) (by kernel_rfl) (by simp) ?_
                          refine AllReady.cons rfl (fun K hK => ?_) (AllReady.nil)
                          · go_simp
                            go_wp2_with (first | (go_at_call 48; refine (byte_54 #[.pointer (some ⟨w13.heap.size, 0, none⟩)] ((decide (bt s ((13 : Nat) : Int) > 0) || decide (bt s 12 > 0))) g s ((13 : Nat) : Int) w0 (w13.alloc (.cells #[.int .i64 (bt s 12)] 3)).drew ?st ?be HPR13 hs (fun _ w1 hw1 => c54 _ _ _ w1 ((cell_of_heap (show w1.heap = (w13.alloc (.cells #[.int .i64 (bt s 12)] 3)).heap from hw1) _).trans ((blk_cell HH.out 0).trans rfl)))).mono ?_; (case st => exact HM13.out.st); (case be => exact qqB); intro e w14 hbe; obtain ⟨he, hb, hkk⟩ := ByteEnd.no hbe HOK.out; have HG := Aside0.mk (Mid.ends (ok13 s) HM13.out hb hkk hfg (by omega) HOK.out he); obtain ⟨a_, c_, hg_⟩ := gone_any he; clear hbe hb hkk he; simp only [gone] at hg_; subst hg_))
                            exact ⟨rfl, HG.out⟩
                      · go_simp
                        refine hK _ _ ?_
                        clear hK K
                        refine wpAny_ready (rs := [0, 5]) (by kernel_rfl) (by simp) ?_
                        refine AllReady.cons rfl (fun K hK => ?_) (AllReady.cons rfl (fun K hK => ?_) (AllReady.nil))
                        · go_simp
                          refine hK _ _ ?_
                          clear hK K
                          refine wpAny_ready (rs := [5]) (by kernel_rfl) (by simp) ?_
                          refine AllReady.cons rfl (fun K hK => ?_) (AllReady.nil)
                          · go_simp
                            go_wp2_with (first | (go_at_call 48; refine (byte_54 #[.pointer (some ⟨w13.heap.size, 0, none⟩)] ((decide (bt s ((13 : Nat) : Int) > 0) || decide (bt s 12 > 0))) g s ((13 : Nat) : Int) w0 (w13.alloc (.cells #[.int .i64 (bt s 12)] 3)).drew ?st ?be HPR13 hs (fun _ w1 hw1 => c54 _ _ _ w1 ((cell_of_heap (show w1.heap = (w13.alloc (.cells #[.int .i64 (bt s 12)] 3)).heap from hw1) _).trans ((blk_cell HH.out 0).trans rfl)))).mono ?_; (case st => exact HM13.out.st); (case be => exact qqB); intro e w14 hbe; obtain ⟨he, hb, hkk⟩ := ByteEnd.no hbe HOK.out; have HG := Aside0.mk (Mid.ends (ok13 s) HM13.out hb hkk hfg (by omega) HOK.out he); obtain ⟨a_, c_, hg_⟩ := gone_any he; clear hbe hb hkk he; simp only [gone] at hg_; subst hg_))
                            exact ⟨rfl, HG.out⟩
                        · go_simp
                          go_wp2_with (first | (go_at_call 48; refine (byte_54 #[.pointer (some ⟨w13.heap.size, 0, none⟩)] ((decide (bt s ((13 : Nat) : Int) > 0) || decide (bt s 12 > 0))) g s ((13 : Nat) : Int) w0 (w13.alloc (.cells #[.int .i64 (bt s 12)] 3)).drew ?st ?be HPR13 hs (fun _ w1 hw1 => c54 _ _ _ w1 ((cell_of_heap (show w1.heap = (w13.alloc (.cells #[.int .i64 (bt s 12)] 3)).heap from hw1) _).trans ((blk_cell HH.out 0).trans rfl)))).mono ?_; (case st => exact HM13.out.st); (case be => exact qqB); intro e w14 hbe; obtain ⟨he, hb, hkk⟩ := ByteEnd.no hbe HOK.out; have HG := Aside0.mk (Mid.ends (ok13 s) HM13.out hb hkk hfg (by omega) HOK.out he); obtain ⟨a_, c_, hg_⟩ := gone_any he; clear hbe hb hkk he; simp only [gone] at hg_; subst hg_))
                          exact ⟨rfl, HG.out⟩
                    · go_simp
                      refine hK _ _ ?_
                      clear hK K
                      refine wpAny_ready (rs := [0, 1, 5]) (by kernel_rfl) (by simp) ?_
                      refine AllReady.cons rfl (fun K hK => ?_) (AllReady.cons rfl (fun K hK => ?_) (AllReady.cons rfl (fun K hK => ?_) (AllReady.nil)))
                      · go_simp
                        refine hK _ _ ?_
                        clear hK K
                        refine wpAny_ready (rs := [1, 5]) (by kernel_rfl) (by simp) ?_
                        refine AllReady.cons rfl (fun K hK => ?_) (AllReady.cons rfl (fun K hK => ?_) (AllReady.nil))
                        · go_simp
                          refine hK _ _ ?_
                          clear hK K
                          refine wpAny_take (i := 2) (v := .int .i64 (IntKind.i64.wrap (bt s 12 * 256))) rfl (by kernel_rfl) (by kernel_rfl) (by kernel_rfl) (fun _ _ _ h => h) (Or.inl ⟨by rfl, ?_⟩) ?_
                          · intro w_; go_simp
                          refine wpAny_ready (rs := [5]) (by kernel_rfl) (by simp) ?_
                          refine AllReady.cons rfl (fun K hK => ?_) (AllReady.nil)
                          · go_simp
                            go_wp2_with (first | (go_at_call 48; refine (byte_54 #[.pointer (some ⟨w13.heap.size, 0, none⟩)] ((decide (bt s ((13 : Nat) : Int) > 0) || decide (bt s 12 > 0))) g s ((13 : Nat) : Int) w0 (w13.alloc (.cells #[.int .i64 (bt s 12)] 3)).drew ?st ?be HPR13 hs (fun _ w1 hw1 => c54 _ _ _ w1 ((cell_of_heap (show w1.heap = (w13.alloc (.cells #[.int .i64 (bt s 12)] 3)).heap from hw1) _).trans ((blk_cell HH.out 0).trans rfl)))).mono ?_; (case st => exact HM13.out.st); (case be => exact qqB); intro e w14 hbe; obtain ⟨he, hb, hkk⟩ := ByteEnd.no hbe HOK.out; have HG := Aside0.mk (Mid.ends (ok13 s) HM13.out hb hkk hfg (by omega) HOK.out he); obtain ⟨a_, c_, hg_⟩ := gone_any he; clear hbe hb hkk he; simp only [gone] at hg_; subst hg_))
                            exact ⟨rfl, HG.out⟩
                        · go_simp
                          go_wp2_with (first | (go_at_call 48; refine (byte_54 #[.pointer (some ⟨w13.heap.size, 0, none⟩)] ((decide (bt s ((13 : Nat) : Int) > 0) || decide (bt s 12 > 0))) g s ((13 : Nat) : Int) w0 (w13.alloc (.cells #[.int .i64 (bt s 12)] 3)).drew ?st ?be HPR13 hs (fun _ w1 hw1 => c54 _ _ _ w1 ((cell_of_heap (show w1.heap = (w13.alloc (.cells #[.int .i64 (bt s 12)] 3)).heap from hw1) _).trans ((blk_cell HH.out 0).trans rfl)))).mono ?_; (case st => exact HM13.out.st); (case be => exact qqB); intro e w14 hbe; obtain ⟨he, hb, hkk⟩ := ByteEnd.no hbe HOK.out; have HG := Aside0.mk (Mid.ends (ok13 s) HM13.out hb hkk hfg (by omega) HOK.out he); obtain ⟨a_, c_, hg_⟩ := gone_any he; clear hbe hb hkk he; simp only [gone] at hg_; subst hg_))
                          exact ⟨rfl, HG.out⟩
                      · go_simp
                        refine hK _ _ ?_
                        clear hK K
                        refine wpAny_take (i := 2) (v := .int .i64 (IntKind.i64.wrap (bt s 12 * 256))) rfl (by kernel_rfl) (by kernel_rfl) (by kernel_rfl) (fun _ _ _ h => h) (Or.inl ⟨by rfl, ?_⟩) ?_
                        · intro w_; go_simp
                        refine wpAny_ready (rs := [0, 5]) (by kernel_rfl) (by simp) ?_
                        refine AllReady.cons rfl (fun K hK => ?_) (AllReady.cons rfl (fun K hK => ?_) (AllReady.nil))
                        · go_simp
                          refine hK _ _ ?_
                          clear hK K
                          refine wpAny_ready (rs := [5]) (by kernel_rfl) (by simp) ?_
                          refine AllReady.cons rfl (fun K hK => ?_) (AllReady.nil)
                          · go_simp
                            go_wp2_with (first | (go_at_call 48; refine (byte_54 #[.pointer (some ⟨w13.heap.size, 0, none⟩)] ((decide (bt s ((13 : Nat) : Int) > 0) || decide (bt s 12 > 0))) g s ((13 : Nat) : Int) w0 (w13.alloc (.cells #[.int .i64 (bt s 12)] 3)).drew ?st ?be HPR13 hs (fun _ w1 hw1 => c54 _ _ _ w1 ((cell_of_heap (show w1.heap = (w13.alloc (.cells #[.int .i64 (bt s 12)] 3)).heap from hw1) _).trans ((blk_cell HH.out 0).trans rfl)))).mono ?_; (case st => exact HM13.out.st); (case be => exact qqB); intro e w14 hbe; obtain ⟨he, hb, hkk⟩ := ByteEnd.no hbe HOK.out; have HG := Aside0.mk (Mid.ends (ok13 s) HM13.out hb hkk hfg (by omega) HOK.out he); obtain ⟨a_, c_, hg_⟩ := gone_any he; clear hbe hb hkk he; simp only [gone] at hg_; subst hg_))
                            exact ⟨rfl, HG.out⟩
                        · go_simp
                          go_wp2_with (first | (go_at_call 48; refine (byte_54 #[.pointer (some ⟨w13.heap.size, 0, none⟩)] ((decide (bt s ((13 : Nat) : Int) > 0) || decide (bt s 12 > 0))) g s ((13 : Nat) : Int) w0 (w13.alloc (.cells #[.int .i64 (bt s 12)] 3)).drew ?st ?be HPR13 hs (fun _ w1 hw1 => c54 _ _ _ w1 ((cell_of_heap (show w1.heap = (w13.alloc (.cells #[.int .i64 (bt s 12)] 3)).heap from hw1) _).trans ((blk_cell HH.out 0).trans rfl)))).mono ?_; (case st => exact HM13.out.st); (case be => exact qqB); intro e w14 hbe; obtain ⟨he, hb, hkk⟩ := ByteEnd.no hbe HOK.out; have HG := Aside0.mk (Mid.ends (ok13 s) HM13.out hb hkk hfg (by omega) HOK.out he); obtain ⟨a_, c_, hg_⟩ := gone_any he; clear hbe hb hkk he; simp only [gone] at hg_; subst hg_))
                          exact ⟨rfl, HG.out⟩
                      · go_simp
                        go_wp2_with (first | (go_at_call 48; refine (byte_54 #[.pointer (some ⟨w13.heap.size, 0, none⟩)] ((decide (bt s ((13 : Nat) : Int) > 0) || decide (bt s 12 > 0))) g s ((13 : Nat) : Int) w0 (w13.alloc (.cells #[.int .i64 (bt s 12)] 3)).drew ?st ?be HPR13 hs (fun _ w1 hw1 => c54 _ _ _ w1 ((cell_of_heap (show w1.heap = (w13.alloc (.cells #[.int .i64 (bt s 12)] 3)).heap from hw1) _).trans ((blk_cell HH.out 0).trans rfl)))).mono ?_; (case st => exact HM13.out.st); (case be => exact qqB); intro e w14 hbe; obtain ⟨he, hb, hkk⟩ := ByteEnd.no hbe HOK.out; have HG := Aside0.mk (Mid.ends (ok13 s) HM13.out hb hkk hfg (by omega) HOK.out he); obtain ⟨a_, c_, hg_⟩ := gone_any he; clear hbe hb hkk he; simp only [gone] at hg_; subst hg_))
                        exact ⟨rfl, HG.out⟩
                · have HOK := Aside0.mk hok
                  clear hok
                  go_at_call 48
                  refine (byte_53 #[] (decide (bt s ((12 : Nat) : Int) < 128)) g s ((12 : Nat) : Int) w0 _ ?st ?be HPR12 hs (fun _ w1 _ => c53 _ w1)).mono ?_
                  (case st => exact HM12.out.st)
                  (case be => first | exact HM12.out.be | exact below_drew1 HM12.out.be)
                  intro e w13 hbe
                  obtain ⟨he, hb, hkk⟩ := ByteEnd.no hbe HOK.out
                  have HG := Aside0.mk (Mid.ends (ok12 s) HM12.out hb hkk hfg (by omega) HOK.out he)
                  obtain ⟨a_, c_, hg_⟩ := gone_any he
                  clear hbe hb hkk he
                  simp only [gone] at hg_
                  subst hg_
                  go_wp2_with fail
                  exact ⟨rfl, HG.out⟩
              · have HOK := Aside0.mk hok
                clear hok
                go_at_call 48
                refine (byte_52 #[.pointer (some ⟨w.heap.size, 0, none⟩)] (okN (bt s ((11 : Nat) : Int)) (bt s 9)) g s ((11 : Nat) : Int) w0 _ ?st ?be HPR11 hs (fun _ w1 hw1 => c52 _ _ _ fb w1 ((cell_of_heap hw1 _).trans ((blk_cell HM11.out.bx 0).trans rfl)) ((cell_of_heap hw1 _).trans ((blk_cell HM11.out.fl 0).trans rfl)))).mono ?_
                (case st => exact HM11.out.st)
                (case be => first | exact HM11.out.be | exact below_drew1 HM11.out.be)
                intro e w12 hbe
                obtain ⟨he, hb, hkk⟩ := ByteEnd.no hbe HOK.out
                have HG := Aside0.mk (Mid.ends (ok11 s) HM11.out hb hkk hfg (by omega) HOK.out he)
                obtain ⟨a_, c_, hg_⟩ := gone_any he
                clear hbe hb hkk he
                simp only [gone] at hg_
                subst hg_
                go_wp2_with fail
                exact ⟨rfl, HG.out⟩
            · have HOK := Aside0.mk hok
              clear hok
              go_at_call 48
              refine (byte_50 #[] ((bt s ((10 : Nat) : Int) == 0)) g s ((10 : Nat) : Int) w0 _ ?st ?be HPR10 hs (fun _ w1 _ => c50 _ w1)).mono ?_
              (case st => exact HM10.out.st)
              (case be => first | exact HM10.out.be | exact below_drew1 HM10.out.be)
              intro e w11 hbe
              obtain ⟨he, hb, hkk⟩ := ByteEnd.no hbe HOK.out
              have HG := Aside0.mk (Mid.ends (ok10 s) HM10.out hb hkk hfg (by omega) HOK.out he)
              obtain ⟨a_, c_, hg_⟩ := gone_any he
              clear hbe hb hkk he
              simp only [gone] at hg_
              subst hg_
              go_wp2_with fail
              exact ⟨rfl, HG.out⟩
        · have HOK := Aside0.mk hok
          clear hok
          refine wp_region_any (by kernel_rfl) ?_
          (try (change wpAny _ _ _ _ _ _ _ (World.drew _)))
          refine wpAny_take (i := 1) (v := .pointer (some ⟨g, 0, none⟩)) rfl (by kernel_rfl) (by kernel_rfl) (by kernel_rfl) (fun _ _ _ h => h) (Or.inl ⟨by rfl, ?_⟩) ?_
          · intro w_; go_simp
          refine wpAny_ready (rs := [0, 2]) (by kernel_rfl) (by simp) ?_
          refine AllReady.cons rfl (fun K hK => ?_) (AllReady.cons rfl (fun K hK => ?_) (AllReady.nil))
          · go_simp
            refine hK _ _ ?_
            clear hK K
            refine wpAny_ready (rs := [2]) (by kernel_rfl) (by simp) ?_
            refine AllReady.cons rfl (fun K hK => ?_) (AllReady.nil)
            · go_simp
              go_wp2_with (first | (go_at_call 48; refine (byte_51 #[] (decide (bt s ((9 : Nat) : Int) ≤ 1)) g s ((9 : Nat) : Int) w0 _ ?st ?be HPR9 hs (fun _ w1 _ => c51 _ w1)).mono ?_; (case st => exact HM9.out.st); (case be => first | exact HM9.out.be | exact below_drew1 HM9.out.be); intro e w10 hbe; obtain ⟨he, hb, hkk⟩ := ByteEnd.no hbe HOK.out; have HG := Aside0.mk (Mid.ends (ok9 s) HM9.out hb hkk hfg (by omega) HOK.out he); obtain ⟨a_, c_, hg_⟩ := gone_any he; clear hbe hb hkk he; simp only [gone] at hg_; subst hg_))
              exact ⟨rfl, HG.out⟩
          · go_simp
            go_wp2_with (first | (go_at_call 48; refine (byte_51 #[] (decide (bt s ((9 : Nat) : Int) ≤ 1)) g s ((9 : Nat) : Int) w0 _ ?st ?be HPR9 hs (fun _ w1 _ => c51 _ w1)).mono ?_; (case st => exact HM9.out.st); (case be => first | exact HM9.out.be | exact below_drew1 HM9.out.be); intro e w10 hbe; obtain ⟨he, hb, hkk⟩ := ByteEnd.no hbe HOK.out; have HG := Aside0.mk (Mid.ends (ok9 s) HM9.out hb hkk hfg (by omega) HOK.out he); obtain ⟨a_, c_, hg_⟩ := gone_any he; clear hbe hb hkk he; simp only [gone] at hg_; subst hg_))
            exact ⟨rfl, HG.out⟩
      · have HOK := Aside0.mk hok
        clear hok
        go_at_call 48
        refine (byte_50 #[] ((bt s ((8 : Nat) : Int) == 0)) g s ((8 : Nat) : Int) w0 _ ?st ?be HPR8 hs (fun _ w1 _ => c50 _ w1)).mono ?_
        (case st => exact HM8.out.st)
        (case be => first | exact HM8.out.be | exact below_drew1 HM8.out.be)
        intro e w9 hbe
        obtain ⟨he, hb, hkk⟩ := ByteEnd.no hbe HOK.out
        have HG := Aside0.mk (Mid.ends (ok8 s) HM8.out hb hkk hfg (by omega) HOK.out he)
        obtain ⟨a_, c_, hg_⟩ := gone_any he
        clear hbe hb hkk he
        simp only [gone] at hg_
        subst hg_
        go_wp2_with fail
        exact ⟨rfl, HG.out⟩
end Go.Proofs.Ytdmnknhlibaaoaa.M
namespace Go.Proofs.Ytdmnknhlibaaoaa.M
open Go.RowKit Go.Proofs.YtdmnknhlibaaoaaW.PrintWords Go.Proofs.YtdmnknhlibaaoaaW.PrintLast Go.Proofs.YtdmnknhlibaaoaaW.PrintMore
set_option linter.unusedVariables false
set_option linter.unusedSimpArgs false
theorem orB_eq {n b : Int} (h0 : 0 ≤ n) (h1 : n < 4294967296) (b0 : 0 ≤ b) (b1 : b < 256) : orB n b = n * 256 + b := by
  have hw : IntKind.i64.wrap (n * 256) = n * 256 := by rw [IntKind.wrap_i64]; omega
  unfold orB
  rw [hw]
  refine bits_join .i64 62 (by decide) (fun m m0 m1 => ?_) 8 (n * 256) b (by omega) ?_ ?_ b0 ?_ ?_
  · rw [IntKind.wrap_i64]
    have : (2 : Int) ^ 62 = 4611686018427387904 := by decide
    omega
  · have : (2 : Int) ^ 8 = 256 := by decide
    omega
  · have : (2 : Int) ^ 62 = 4611686018427387904 := by decide
    omega
  · have : (2 : Int) ^ 8 = 256 := by decide
    omega
  · have : (2 : Int) ^ 62 = 4611686018427387904 := by decide
    omega
def numB (t : ByteArray) : Nat → Int
  | 0 => 0
  | k + 1 => orB (numB t k) (bt t (k : Int))
theorem numB_step {t : ByteArray} {k : Nat} (h0 : 0 ≤ numB t k) (h1 : numB t k < 16777216) : numB t (k + 1) = numB t k * 256 + bt t (k : Int) := by
  have hb := bt_range t (k : Int)
  rw [numB, orB_eq h0 (by omega) hb.1 (by omega)]
theorem numB_range (t : ByteArray) : (0 ≤ numB t 1 ∧ numB t 1 < 256) ∧ (0 ≤ numB t 2 ∧ numB t 2 < 65536) ∧ (0 ≤ numB t 3 ∧ numB t 3 < 16777216) ∧ (0 ≤ numB t 4 ∧ numB t 4 < 4294967296) := by
  have e0 : numB t 0 = 0 := rfl
  have b0 := bt_range t ((0 : Nat) : Int)
  have b1 := bt_range t ((1 : Nat) : Int)
  have b2 := bt_range t ((2 : Nat) : Int)
  have b3 := bt_range t ((3 : Nat) : Int)
  have e1 : numB t 1 = numB t 0 * 256 + bt t ((0 : Nat) : Int) := numB_step (t := t) (k := 0) (by omega) (by omega)
  have e2 : numB t 2 = numB t 1 * 256 + bt t ((1 : Nat) : Int) := numB_step (t := t) (k := 1) (by omega) (by omega)
  have e3 : numB t 3 = numB t 2 * 256 + bt t ((2 : Nat) : Int) := numB_step (t := t) (k := 2) (by omega) (by omega)
  have e4 : numB t 4 = numB t 3 * 256 + bt t ((3 : Nat) : Int) := numB_step (t := t) (k := 3) (by omega) (by omega)
  omega
theorem conv_cell (W : World) (t : ByteArray) (k : Nat) (hk : k < t.size) : (Lib.bytesWorld W 5 t).cell? ⟨W.heap.size, k, none⟩ = some (.int .u8 (bt t (k : Int))) := by
  rw [Lib.bytesWorld_cell W 5 t k hk]
  have hk2 : k < t.data.size := hk
  have : bt t (k : Int) = ((t.data.toList.getD k 0).toNat : Int) := by
    unfold bt
    rw [dif_pos (by simpa using hk)]
    show ((t.data[k]).toNat : Int) = _
    rw [List.getD_eq_getElem?_getD, Array.getElem?_toList, Array.getElem?_eq_getElem hk2]
    rfl
  rw [this]
end Go.Proofs.Ytdmnknhlibaaoaa.M
namespace Go.Proofs.Ytdmnknhlibaaoaa.M
open Go.RowKit Go.Proofs.YtdmnknhlibaaoaaW.PrintWords Go.Proofs.YtdmnknhlibaaoaaW.PrintLast Go.Proofs.YtdmnknhlibaaoaaW.PrintMore
set_option linter.unusedVariables false
set_option linter.unusedSimpArgs false
def chunkF (k : Nat) (s : ByteArray) (p : Int) : Option (Except (Int × Int) (List S28 × Int)) :=
  if (s.size : Int) - p < 4 then some (.error (s.size, 152))
  else if (s.size : Int) - (p + 4) < 4 then some (.error (s.size, 152))
  else if (s.size : Int) - (p + 8) < numB (s.extract (p + 4).toNat (p + 8).toNat) 4 then some (.error (s.size, 152))
  else if (s.extract p.toNat (p + 4).toNat).toList = ([77, 84, 114, 107] : List UInt8) then
    (wire_Decode.f k (s.extract (p + 8).toNat (p + 8 + numB (s.extract (p + 4).toNat (p + 8).toNat) 4).toNat)).bind fun d =>
      if d.2.2 = 0 then (smf_ends.f k d.1).bind fun b => if b = true then some (.ok (d.1, p + 8 + numB (s.extract (p + 4).toNat (p + 8).toNat) 4)) else some (.error (p + 8, 160))
      else some (.error (wrap64 (p + 8 + d.2.1), d.2.2))
  else some (.ok ([], p + 8 + numB (s.extract (p + 4).toNat (p + 8).toNat) 4))
def ChunkEnd (s : ByteArray) (g : Nat) (w0 w : World) (r : Except (Int × Int) (List S28 × Int)) (e : Ending) (w' : World) : Prop := Below w0.heap.size w0 w' ∧ KeepBut w w' g none ∧
  (match r with
  | .error (a, c) => e = gone a c
  | .ok (l, q) => ∃ v, e = .returned v ∧ (l = [] → v = .slice none 0 0) ∧ Kd.R k28 28 w' w.heap.size (fun _ => True) v l ∧ IsS60 w0 w' g s q)
set_option maxHeartbeats 8000000 in
set_option maxRecDepth 100000 in
theorem chunk_calls (k : Nat) (g : Nat) (s : ByteArray) (p : Int) (r : Except (Int × Int) (List S28 × Int)) (w0 w : World) (hI : IsS60 w0 w g s p) (hB : Below w0.heap.size w0 w) (hp : 0 ≤ p ∧ p ≤ s.size) (hs : s.size ≤ 100000) (h : chunkF k s p = some r) :
    Calls Try.prog 33 #[.pointer (some ⟨g, 0, none⟩)] w (ChunkEnd s g w0 w r) := by
  have hcv : ∀ (W : World) (t : ByteArray), (convert 9 39 (.string t)).run Try.prog W = .ok (.slice (some ⟨W.heap.size, 0, none⟩) t.size (grownCap W t.size 0 5)) (Lib.bytesWorld W 5 t) := fun W t => Lib.run_convert_string_bytes W 9 39 5 t Try.underlying9 Try.underlying39 Try.underlying5
  have HI := Aside0.mk hI
  have HB := Aside0.mk hB
  have H := Aside0.mk h
  clear hI hB h
  by_cases c1 : (s.size : Int) - p < 4
  · have hr : r = .error ((s.size : Int), 152) := by have := H.out; unfold chunkF at this; rw [if_pos c1] at this; exact (Option.some.inj this).symm
    subst hr
    go_enter Try.func33, Try.ntmps33
    go_wp2_with fail
    go_at_call 55
    refine (take_calls g s p 4 w0 w HI.out HB.out hp hs (by omega)).mono ?_
    rintro e w1 ⟨hb, hk, ⟨_, he⟩ | ⟨hh, _⟩⟩
    · have HE := Aside0.mk (show ChunkEnd s g w0 w (.error ((s.size : Int), 152)) e w1 from ⟨hb, hk, he⟩)
      clear hb hk
      simp only [gone] at he
      subst he
      go_wp2_with fail
      exact ⟨rfl, HE.out⟩
    · omega
  · have C1 := Aside0.mk c1
    clear c1
    go_enter Try.func33, Try.ntmps33
    go_wp2_with fail
    go_at_call 55
    refine (take_calls g s p 4 w0 w HI.out HB.out hp hs (by omega)).mono ?_
    rintro e w1 ⟨hb, hk, ⟨hh, _⟩ | ⟨_, he, hi⟩⟩
    · have := C1.out; omega
    subst he
    have HI1 := Aside0.mk hi
    have HB1 := Aside0.mk hb
    have HK1 := Aside0.mk hk
    clear hi hb hk HI HB
    go_wp2_with fail
    go_at_call 55
    refine (take_calls g s (p + 4) 4 w0 w1 HI1.out HB1.out (by have := C1.out; omega) hs (by omega)).mono ?_
    by_cases c2 : (s.size : Int) - (p + 4) < 4
    · have hr : r = .error ((s.size : Int), 152) := by have := H.out; unfold chunkF at this; rw [if_neg (by have := C1.out; omega), if_pos c2] at this; exact (Option.some.inj this).symm
      subst hr
      rintro e w2 ⟨hb, hk, ⟨_, he⟩ | ⟨hh, _⟩⟩
      · have HE := Aside0.mk (show ChunkEnd s g w0 w (.error ((s.size : Int), 152)) e w2 from ⟨hb, HK1.out.trans hk (.inl rfl), he⟩)
        clear hb hk
        simp only [gone] at he
        subst he
        go_wp2_with fail
        exact ⟨rfl, HE.out⟩
      · omega
    have C2 := Aside0.mk c2
    clear c2
    rintro e w2 ⟨hb, hk, ⟨hh, _⟩ | ⟨_, he, hi⟩⟩
    · have := C2.out; omega
    rw [show p + 4 + 4 = p + 8 by omega] at he hi
    obtain ⟨t, ht⟩ : ∃ t : ByteArray, t = s.extract (p + 4).toNat (p + 8).toNat := ⟨_, rfl⟩
    have hts : t.size = 4 := by rw [ht]; simp [ByteArray.size_extract]; have := C2.out; omega
    have hid : ∃ id : ByteArray, id = s.extract p.toNat (p + 4).toNat := ⟨_, rfl⟩
    obtain ⟨id, hid⟩ := hid
    rw [← ht] at he
    rw [← hid]
    subst he
    have HI2 := Aside0.mk hi
    have HB2 := Aside0.mk hb
    have HK2 := Aside0.mk (HK1.out.trans hk (.inl rfl))
    have HT := Aside0.mk ht
    have HID := Aside0.mk hid
    clear hi hb hk HI1 HB1 HK1 ht hid
    go_wp2
    go_loopw [4, 18] (fun n i wr => ∃ j : Nat, j ≤ 4 ∧ n = .int .i64 (numB t j) ∧ i = .int .i64 (j : Int) ∧ wr = Lib.bytesWorld w2 5 t) (fun _ i _ => 4 - (intOf i).toNat)
    case atStart => exact ⟨0, by omega, rfl, rfl, rfl⟩
    case round =>
      obtain ⟨j, hj, rfl, rfl, rfl⟩ := hrel
      by_cases hlt : j < 4
      · have hcell := conv_cell w2 t j (by omega)
        have hd : decide ((j : Int) < 4) = true := decide_eq_true (by omega)
        have hb0 := bt_range t (j : Int)
        have hbw : wrap64 (bt t (j : Int)) = bt t (j : Int) := by unfold wrap64; omega
        go_wp2
        go_roundw
        case rel => exact ⟨j + 1, by omega, by rw [numB, orB, i64_w], by go_num, trivial⟩
        case measure => simp [intOf]; omega
      · obtain rfl : j = 4 := by omega
        obtain ⟨n, hn⟩ : ∃ n : Int, n = numB t 4 := ⟨_, rfl⟩
        have hnr := (numB_range t).2.2.2
        rw [← hn] at hnr
        rw [← hn]
        have hI3 : IsS60 w0 (Lib.bytesWorld w2 5 t) g s (p + 8) := ⟨(Lib.bytesWorld_at_old w2 5 t g HI2.out.lt).trans HI2.out.1, HI2.out.2⟩
        have HI3 := Aside0.mk hI3
        have HB3 := Aside0.mk (bytes_below HB2.out HB2.out.size 5 t)
        have HK3 := Aside0.mk (HK2.out.trans (KeepBut.of_below (bytes_below (Below.refl w2.heap.size w2) (Nat.le_refl _) 5 t) g none) (.inl rfl))
        have hc1 := cellS60_1 hI3.1
        have HN := Aside0.mk hn
        clear HI2 HB2 HK2 hI3 hn
        go_wp2_with fail
        have hK := H.out
        unfold chunkF at hK
        rw [if_neg (by have := C1.out; omega), if_neg (by have := C2.out; omega), ← HT.out, ← HN.out, ← HID.out] at hK
        have HH := Aside0.mk hK
        clear hK H
        go_at_call 55
        refine (take_calls g s (p + 8) n w0 _ HI3.out HB3.out (by have := C2.out; omega) hs (by omega)).mono ?_
        by_cases c3 : (s.size : Int) - (p + 8) < n
        · have hr : r = .error ((s.size : Int), 152) := by have := HH.out; rw [if_pos c3] at this; exact (Option.some.inj this).symm
          subst hr
          rintro e w3 ⟨hb, hk, ⟨_, he⟩ | ⟨hh, _⟩⟩
          · have HE := Aside0.mk (show ChunkEnd s g w0 w (.error ((s.size : Int), 152)) e w3 from ⟨hb, HK3.out.trans hk (.inl rfl), he⟩)
            clear hb hk
            simp only [gone] at he
            subst he
            go_wp2_with fail
            exact ⟨rfl, HE.out⟩
          · omega
        have hK := HH.out
        rw [if_neg c3] at hK
        have HH := Aside0.mk hK
        have C3 := Aside0.mk c3
        clear c3 hK
        rintro e w3 ⟨hb, hk, ⟨hh, _⟩ | ⟨_, he, hi⟩⟩
        · have := C3.out; omega
        obtain ⟨d, hdd⟩ : ∃ d : ByteArray, d = s.extract (p + 8).toNat (p + 8 + n).toNat := ⟨_, rfl⟩
        rw [← hdd] at he
        subst he
        have hK := HH.out
        rw [← hdd] at hK
        have HI4 := Aside0.mk hi
        have HB4 := Aside0.mk hb
        have HK4 := Aside0.mk (HK3.out.trans hk (.inl rfl))
        clear hi hb hk HI3 HB3 HK3 hc1 HH hdd
        by_cases c4 : id.toList = ([77, 84, 114, 107] : List UInt8)
        · rw [if_pos c4] at hK
          have c4b0 : (id.toList == ([77, 84, 114, 107] : List UInt8)) = true := beq_iff_eq.mpr c4
          have c4b1 : (id.toList != ([77, 84, 114, 107] : List UInt8)) = false := bne_eq_false_iff_eq.mpr c4
          clear c4
          obtain ⟨⟨l, q, x⟩, hD, hR⟩ := Option.bind_eq_some_iff.mp hK
          replace hR : (if x = 0 then (smf_ends.f k l).bind fun b => if b = true then some (Except.ok (l, p + 8 + n)) else some (Except.error (p + 8, 160)) else some (Except.error (wrap64 (p + 8 + q), x))) = some r := hR
          have HD := Aside0.mk hD
          have HR := Aside0.mk hR
          clear hK hD hR
          go_wp2_with fail
          go_at_call 56
          refine (wire_Decode.calls k d l q x _ HD.out).mono ?_
          rintro e w4 ⟨v, rfl, ho, hb⟩
          obtain ⟨A, cap, rfl⟩ := Kd.R_slice ho
          have HO := Aside0.mk ho
          have HI5 := Aside0.mk (HI4.out.below hb)
          have HB5 := Aside0.mk (below_step HB4.out hb)
          have HK5 := Aside0.mk (HK4.out.trans (KeepBut.of_below hb g none) (.inl rfl))
          have hsz := HK4.out.1
          clear ho hb
          by_cases c5 : x = 0
          · have hR := HR.out
            rw [if_pos c5] at hR
            have c5b0 : (x == 0) = true := beq_iff_eq.mpr c5
            have c5b1 : (x != 0) = false := bne_eq_false_iff_eq.mpr c5
            clear c5
            obtain ⟨b, hE, hR⟩ := Option.bind_eq_some_iff.mp hR
            have HE := Aside0.mk hE
            have HR2 := Aside0.mk hR
            clear hE hR HR
            go_wp2_with fail
            go_at_call 40
            refine (smf_ends.calls k A cap l b _ (Kd.R_reads' HO.out).2.2 (Kd.R_reads' HO.out).2.1 HE.out).mono ?_
            rintro e w5 ⟨rfl, hb⟩
            have HI6 := Aside0.mk (HI5.out.below hb)
            have HB6 := Aside0.mk (below_step HB5.out hb)
            have HK6 := Aside0.mk (HK5.out.trans (KeepBut.of_below hb g none) (.inl rfl))
            have HO6 := Aside0.mk (Kd.R_below (Kd.R_lower HO.out hsz) hb)
            clear hb hsz
            cases b with
            | true =>
              have hr : r = .ok (l, p + 8 + n) := by have := HR2.out; rw [if_pos rfl] at this; exact (Option.some.inj this).symm
              subst hr
              have HL : Aside0 (l = [] → (Value.slice A l.length cap) = .slice none 0 0) := ⟨fun hl => by have h9 := HE.out; subst hl; simp [smf_ends.f] at h9⟩
              go_wp2
              go_ret
              exact ⟨HB6.out, HK6.out, _, rfl, HL.out, HO6.out, HI6.out⟩
            | false =>
              have hr : r = .error (p + 8, 160) := by have := HR2.out; rw [if_neg (by decide)] at this; exact (Option.some.inj this).symm
              subst hr
              go_wp2_with (go_at_call 34; refine (fail_calls _ _ _).mono ?_; rintro e w' ⟨he, rfl⟩; simp only [gone] at he; subst he)
              exact ⟨rfl, HB6.out, HK6.out, rfl⟩
          · have hR := HR.out
            rw [if_neg c5] at hR
            have c5b0 : (x == 0) = false := beq_eq_false_iff_ne.mpr c5
            have c5b1 : (x != 0) = true := bne_iff_ne.mpr c5
            clear c5
            have hr : r = .error (wrap64 (p + 8 + q), x) := (Option.some.inj hR).symm
            subst hr
            clear hR HR
            go_wp2_with (go_at_call 34; refine (fail_calls _ _ _).mono ?_; rintro e w' ⟨he, rfl⟩; simp only [gone] at he; subst he)
            exact ⟨rfl, HB5.out, HK5.out, rfl⟩
        · rw [if_neg c4] at hK
          have c4b0 : (id.toList == ([77, 84, 114, 107] : List UInt8)) = false := beq_eq_false_iff_ne.mpr c4
          have c4b1 : (id.toList != ([77, 84, 114, 107] : List UInt8)) = true := bne_iff_ne.mpr c4
          clear c4
          have hr : r = .ok ([], p + 8 + n) := (Option.some.inj hK).symm
          subst hr
          clear hK
          go_wp2
          go_ret
          exact ⟨HB4.out, HK4.out, _, rfl, fun _ => rfl, Kd.R_nil _ _ _ _ _, HI4.out⟩
end Go.Proofs.Ytdmnknhlibaaoaa.M
namespace Go.Proofs.Ytdmnknhlibaaoaa.M
open Go.RowKit Go.Proofs.YtdmnknhlibaaoaaW.PrintWords Go.Proofs.YtdmnknhlibaaoaaW.PrintLast Go.Proofs.YtdmnknhlibaaoaaW.PrintMore
set_option linter.unusedVariables false
set_option linter.unusedSimpArgs false
theorem info57 : (Try.prog.info? 57).map (fun i => i.zero) = some (some (.agg #[.int .i64 0, .int .i64 0])) := by kernel_rfl
theorem assert_nil (w : World) : (Instr.typeAssert .nilIface 20 57 true).run Try.prog w = .ok (.tuple #[.agg #[.int .i64 0, .int .i64 0], .bool false]) w := by
  have h := info57
  cases hi : Try.prog.info? 57 with
  | none => rw [hi] at h; cases h
  | some i =>
    rw [hi] at h
    have hz : i.zero = some (.agg #[.int .i64 0, .int .i64 0]) := Option.some.inj h
    simp [Instr.typeAssert, run_underlying Try.underlying57, zeroValue, typeInfo, hi, hz, Result.andThen]
theorem assert_wrong (v : Value) (w : World) : (Instr.typeAssert (.iface 57 v) 20 57 true).run Try.prog w = .ok (.tuple #[v, .bool true]) w := by
  simp [Instr.typeAssert, run_underlying Try.underlying57, Result.andThen]
theorem catch_idle (fb ab eb : Nat) (w : World) :
    CallsD Try.prog 31 #[.pointer (some ⟨fb, 0, none⟩), .pointer (some ⟨ab, 0, none⟩), .pointer (some ⟨eb, 0, none⟩)] .returning w fun e u' w' => e = .returned (.tuple #[]) ∧ u' = .returning ∧ w' = w := by
  have ha := assert_nil
  refine callsD_of_wpS Try.func31 rfl fun c₀ cs hu => ?_
  apply wpS_seq
  apply wpS_region
  simp [wpOpsS, go_sem, recoverD, hu, Try.ntmps31, Exit.thenS]
  refine wpS_of_wp ?_
  go_wp2
  all_goals
    cases c₀
    simp_all [bodyPostS, results, Try.results31]
def CaughtEnd (fb ab eb : Nat) (a c : Int) (w0 w : World) (w' : World) : Prop := w'.heap[fb]? = some (.cells #[.int .i64 0, .int .i64 0, .slice none 0 0] 24 (0, 0)) ∧ w'.heap[ab]? = some (.cells #[.int .i64 a] 3 (0, 0)) ∧ w'.heap[eb]? = some (.cells #[.int .i64 c] 33 (0, 0)) ∧ Below w0.heap.size w0 w'
set_option maxHeartbeats 8000000 in
set_option maxRecDepth 100000 in
theorem catch_panicking (fb ab eb : Nat) (a c x y a0 c0 : Int) (v : Value) (older : List PanicEntry) (w0 w : World) (hB : Below w0.heap.size w0 w) (h0 : w0.heap.size ≤ fb) (h1 : w0.heap.size ≤ ab) (h2 : w0.heap.size ≤ eb) (n1 : fb ≠ ab) (n2 : fb ≠ eb) (n3 : ab ≠ eb)
    (hf : w.heap[fb]? = some (.cells #[.int .i64 x, .int .i64 y, v] 24 (0, 0))) (ha : w.heap[ab]? = some (.cells #[.int .i64 a0] 3 (0, 0))) (he : w.heap[eb]? = some (.cells #[.int .i64 c0] 33 (0, 0))) :
    CallsD Try.prog 31 #[.pointer (some ⟨fb, 0, none⟩), .pointer (some ⟨ab, 0, none⟩), .pointer (some ⟨eb, 0, none⟩)] (.panicking ({ v := .iface 57 (.agg #[.int .i64 a, .int .i64 c]), recovered := false } :: older)) w fun e u' w' =>
      e = .returned (.tuple #[]) ∧ u' = .panicking ({ v := .iface 57 (.agg #[.int .i64 a, .int .i64 c]), recovered := true } :: older) ∧ CaughtEnd fb ab eb a c w0 w w' := by
  have hw := assert_wrong
  have Hf := Aside0.mk (blk_alloc hf (.cells #[.int .i64 a, .int .i64 c] 57))
  have Ha := Aside0.mk (blk_alloc ha (.cells #[.int .i64 a, .int .i64 c] 57))
  have He := Aside0.mk (blk_alloc he (.cells #[.int .i64 a, .int .i64 c] 57))
  have HB := Aside0.mk (below_alloc hB (.cells #[.int .i64 a, .int .i64 c] 57))
  have Hn := Aside0.mk (show (w.alloc (.cells #[.int .i64 a, .int .i64 c] 57)).heap[w.heap.size]? = some (.cells #[.int .i64 a, .int .i64 c] 57 (0, 0)) by simpa using heap_alloc_new w _)
  have Hx := Aside0.mk (show fb < w.heap.size ∧ ab < w.heap.size ∧ eb < w.heap.size from ⟨blk_lt hf, blk_lt ha, blk_lt he⟩)
  clear hf ha he hB
  refine callsD_of_wpS Try.func31 rfl fun c₀ cs hu => ?_
  apply wpS_seq
  apply wpS_region
  simp [wpOpsS, go_sem, recoverD, hu, Try.ntmps31, Exit.thenS]
  refine wpS_of_wp ?_
  go_wp2
  change Code.wp _ _ _ { tmps := #[.pointer (some ⟨fb, 0, none⟩), .pointer (some ⟨ab, 0, none⟩), .pointer (some ⟨eb, 0, none⟩), .pointer (some ⟨w.heap.size, 0, none⟩), .iface 57 (.agg #[.int .i64 a, .int .i64 c]), .tuple #[.agg #[.int .i64 a, .int .i64 c], .bool true], .bool true, .agg #[.int .i64 a, .int .i64 c], undef, undef, undef, undef, undef], defers := [] } _
  obtain ⟨W, hW⟩ : ∃ W : World, W = w.alloc (.cells #[.int .i64 a, .int .i64 c] 57) := ⟨_, rfl⟩
  rw [← hW] at Hf Ha He HB Hn ⊢
  have f0 := (blk_cell Hf.out 0).trans rfl
  have f1 := (blk_cell Hf.out 1).trans rfl
  have f2 := (blk_cell Hf.out 2).trans rfl
  have z0 := blk_frozen Hf.out 0
  have z1 := blk_frozen Hf.out 1
  have z2 := blk_frozen Hf.out 2
  have a0_ := (blk_cell Ha.out 0).trans rfl
  have za := blk_frozen Ha.out 0
  have e0_ := (blk_cell He.out 0).trans rfl
  have ze := blk_frozen He.out 0
  have g0 := (blk_cell Hn.out 0).trans rfl
  have g1 := (blk_cell Hn.out 1).trans rfl
  have m1 : ab ≠ fb := n1.symm
  have m2 : eb ≠ fb := n2.symm
  have m3 : eb ≠ ab := n3.symm
  have k1 : w.heap.size ≠ fb := by have := Hx.out; omega
  have k2 : w.heap.size ≠ ab := by have := Hx.out; omega
  have k3 : w.heap.size ≠ eb := by have := Hx.out; omega
  clear hW
  have HC : CaughtEnd fb ab eb a c w0 w ((((((W.setCell ⟨fb, 0, none⟩ (.int .i64 0)).setCell ⟨fb, 1, none⟩ (.int .i64 0)).setCell ⟨fb, 2, none⟩ (.slice none 0 0)).setCell ⟨ab, 0, none⟩ (.int .i64 a)).setCell ⟨eb, 0, none⟩ (.int .i64 c)).drew) := by
    refine ⟨?_, ?_, ?_, ?_⟩
    · exact blk_drew (blk_far (blk_far (by simpa using blk_set (blk_set (blk_set Hf.out 0 (.int .i64 0)) 1 (.int .i64 0)) 2 (.slice none 0 0)) n1 _) n2 _)
    · exact blk_drew (blk_far (by simpa using blk_set (blk_far (blk_far (blk_far Ha.out m1 (.int .i64 0) (p := ⟨fb, 0, none⟩)) m1 (.int .i64 0) (p := ⟨fb, 1, none⟩)) m1 (.slice none 0 0) (p := ⟨fb, 2, none⟩)) 0 (.int .i64 a)) n3 _)
    · exact blk_drew (by simpa using blk_set (blk_far (blk_far (blk_far (blk_far He.out m2 (.int .i64 0) (p := ⟨fb, 0, none⟩)) m2 (.int .i64 0) (p := ⟨fb, 1, none⟩)) m2 (.slice none 0 0) (p := ⟨fb, 2, none⟩)) m3 (.int .i64 a) (p := ⟨ab, 0, none⟩)) 0 (.int .i64 c))
    · exact below_drew1 (below_set (below_set (below_set (below_set (below_set HB.out h0) h0) h0) h1) h2)
  have HC := Aside0.mk HC
  go_region
  refine (show bodyPostS Try.prog Try.f31 c₀ cs (fun e u' w' => e = .returned (.tuple #[]) ∧ u' = .panicking ({ v := .iface 57 (.agg #[.int .i64 a, .int .i64 c]), recovered := true } :: older) ∧ CaughtEnd fb ab eb a c w0 w w') Exit.normal _ _ _ from ?_)
  simp [bodyPostS, results, Try.results31]
  exact HC.out
end Go.Proofs.Ytdmnknhlibaaoaa.M
namespace Go.Proofs.Ytdmnknhlibaaoaa.M
open Go.RowKit Go.Proofs.YtdmnknhlibaaoaaW.PrintWords Go.Proofs.YtdmnknhlibaaoaaW.PrintLast Go.Proofs.YtdmnknhlibaaoaaW.PrintMore
set_option linter.unusedVariables false
set_option linter.unusedSimpArgs false
def parseL (k : Nat) (s : ByteArray) (n : Int) : Nat → Int → List (List S28) → Option (Except (Int × Int) (List (List S28) × Int))
  | 0, _, _ => none
  | m + 1, p, acc => if (acc.length : Int) < n then (chunkF k s p).bind fun r => match r with
      | .error x => some (.error x)
      | .ok (l, q) => if l.length = 0 then parseL k s n m q acc else if acc.length < 5864062014805 then parseL k s n m q (acc ++ [l]) else none
    else some (.ok (acc, p))
def smf_Parse.f (k : Nat) (s : ByteArray) : Option (Int × Int × List (List S28) × Int × Int) :=
  if (s.size : Int) > 100000 then some (0, 0, [], 0, 160)
  else match headGo s 14 0 with
    | some (a, c) => some (0, 0, [], a, c)
    | none => (parseL k s (bt s 11) k 14 []).bind fun r => match r with
      | .error (a, c) => some (0, 0, [], a, c)
      | .ok (acc, p) => if p < (s.size : Int) then some (0, 0, [], p, 160) else some (bt s 9, orB (bt s 12) (bt s 13), acc, 0, 0)
abbrev begun (s : ByteArray) (w : World) : World := (((w.alloc (.cells #[.int .i64 0, .int .i64 0, .slice none 0 0] 24)).alloc (.cells #[.int .i64 0] 3)).alloc (.cells #[.int .i64 0] 33)).alloc (.cells #[.string s, .int .i64 0] 60)
theorem begun_f (s : ByteArray) (w : World) : (begun s w).heap[w.heap.size]? = some (.cells #[.int .i64 0, .int .i64 0, .slice none 0 0] 24 (0, 0)) := blk_alloc (blk_alloc (blk_alloc (by simpa using heap_alloc_new w _) _) _) _
theorem begun_a (s : ByteArray) (w : World) : (begun s w).heap[w.heap.size + 1]? = some (.cells #[.int .i64 0] 3 (0, 0)) := blk_alloc (blk_alloc (by simpa using heap_alloc_new (w.alloc (.cells #[.int .i64 0, .int .i64 0, .slice none 0 0] 24)) (.cells #[.int .i64 0] 3)) _) _
theorem begun_e (s : ByteArray) (w : World) : (begun s w).heap[w.heap.size + 1 + 1]? = some (.cells #[.int .i64 0] 33 (0, 0)) := blk_alloc (by simpa using heap_alloc_new ((w.alloc (.cells #[.int .i64 0, .int .i64 0, .slice none 0 0] 24)).alloc (.cells #[.int .i64 0] 3)) (.cells #[.int .i64 0] 33)) _
theorem begun_r (s : ByteArray) (w : World) : IsS60 w (begun s w) (w.heap.size + 1 + 1 + 1) s 0 := ⟨by simpa using heap_alloc_new (((w.alloc (.cells #[.int .i64 0, .int .i64 0, .slice none 0 0] 24)).alloc (.cells #[.int .i64 0] 3)).alloc (.cells #[.int .i64 0] 33)) (.cells #[.string s, .int .i64 0] 60), by omega⟩
theorem begun_b (s : ByteArray) (w : World) : Below w.heap.size w (begun s w) := below_alloc (below_alloc (below_alloc (below_alloc (Below.refl _ _) _) _) _) _
set_option maxHeartbeats 8000000 in
set_option maxRecDepth 100000 in
theorem parse_long (s : ByteArray) (w : World) (hs : (s.size : Int) > 100000) :
    Calls Try.prog 21 #[.string s] w fun e w' => e = .returned (.tuple #[.agg #[.int .i64 0, .int .i64 0, .slice none 0 0], .int .i64 0, .int .i64 160]) ∧ Below w.heap.size w w' := by
  have hd : decide ((s.size : Int) > 100000) = true := decide_eq_true hs
  go_enter_defers Try.func21, Try.ntmps21
  go_wp2
  simp [bodyPostD, Leaves, settle, results, Try.results21, go_sem]
  exact below_alloc (below_alloc (below_alloc (Below.refl _ _) _) _) _
set_option maxHeartbeats 8000000 in
set_option maxRecDepth 100000 in
theorem parse_head (s : ByteArray) (w : World) (a c : Int) (hs : s.size ≤ 100000) (hh : headGo s 14 0 = some (a, c)) :
    Calls Try.prog 21 #[.string s] w fun e w' => e = .returned (.tuple #[.agg #[.int .i64 0, .int .i64 0, .slice none 0 0], .int .i64 a, .int .i64 c]) ∧ Below w.heap.size w w' := by
  have hd : decide ((s.size : Int) > 100000) = false := decide_eq_false (by omega)
  have hmf : ∀ (fn : Fn) (first cap : Array Value) (w : World), (Instr.makeFunc fn first cap).run Try.prog w = .ok (.func fn first cap) w := fun _ _ _ _ => rfl
  go_enter_defers Try.func21, Try.ntmps21
  go_wp2_with fail
  go_at_call 32
  refine (head_calls (w.heap.size + 1 + 1 + 1) w.heap.size s w (begun s w) (begun_r s w) (begun_f s w) (Nat.le_refl _) (begun_b s w) hs).mono ?_
  rintro e w1 ⟨hb, hk, x, y, hf, he⟩
  rw [hh] at he
  have he2 : e = gone a c := he
  have HA := Aside0.mk (hk.blk (begun_a s w) (by omega) (fun z => by have := Option.some.inj z; omega))
  have HE := Aside0.mk (hk.blk (begun_e s w) (by omega) (fun z => by have := Option.some.inj z; omega))
  have HF := Aside0.mk hf
  have HB := Aside0.mk hb
  clear hk hf hb he
  simp only [gone] at he2
  subst he2
  go_wp2_with fail
  refine leaves_cons (f := 31) (args := #[.pointer (some ⟨w.heap.size, 0, none⟩), .pointer (some ⟨w.heap.size + 1, 0, none⟩), .pointer (some ⟨w.heap.size + 1 + 1, 0, none⟩)]) (by simp) (by simp [go_sem]) ?_
  refine (catch_panicking w.heap.size (w.heap.size + 1) (w.heap.size + 1 + 1) a c x y 0 0 _ [] w w1 HB.out (Nat.le_refl _) (by omega) (by omega) (by omega) (by omega) (by omega) HF.out HA.out HE.out).mono ?_
  rintro e u' w'' ⟨rfl, rfl, h1, h2, h3, h4⟩
  have q0 := (blk_cell h1 0).trans rfl
  have q1 := (blk_cell h1 1).trans rfl
  have q2 := (blk_cell h1 2).trans rfl
  have q3 := (blk_cell h2 0).trans rfl
  have q4 := (blk_cell h3 0).trans rfl
  simp [Leaves, settle, results, Try.results21, go_sem, q0, q1, q2, q3, q4]
  exact h4
end Go.Proofs.Ytdmnknhlibaaoaa.M
namespace Go.Proofs.Ytdmnknhlibaaoaa.M
open Go.RowKit Go.Proofs.YtdmnknhlibaaoaaW.PrintWords Go.Proofs.YtdmnknhlibaaoaaW.PrintLast Go.Proofs.YtdmnknhlibaaoaaW.PrintMore
set_option linter.unusedVariables false
set_option linter.unusedSimpArgs false
theorem chunk_le {k : Nat} {s : ByteArray} {p q : Int} {l : List S28} (hp : 0 ≤ p ∧ p ≤ s.size) (h : chunkF k s p = some (.ok (l, q))) : 0 ≤ q ∧ q ≤ s.size := by
  have hn := (numB_range (s.extract (p + 4).toNat (p + 8).toNat)).2.2.2
  unfold chunkF at h
  by_cases c1 : (s.size : Int) - p < 4
  · rw [if_pos c1] at h; cases h
  rw [if_neg c1] at h
  by_cases c2 : (s.size : Int) - (p + 4) < 4
  · rw [if_pos c2] at h; cases h
  rw [if_neg c2] at h
  by_cases c3 : (s.size : Int) - (p + 8) < numB (s.extract (p + 4).toNat (p + 8).toNat) 4
  · rw [if_pos c3] at h; cases h
  rw [if_neg c3] at h
  have key : q = p + 8 + numB (s.extract (p + 4).toNat (p + 8).toNat) 4 := by
    by_cases c4 : (s.extract p.toNat (p + 4).toNat).toList = ([77, 84, 114, 107] : List UInt8)
    · rw [if_pos c4] at h
      obtain ⟨d, _, h⟩ := Option.bind_eq_some_iff.mp h
      by_cases c5 : d.2.2 = 0
      · rw [if_pos c5] at h
        obtain ⟨b, _, h⟩ := Option.bind_eq_some_iff.mp h
        cases b with
        | true => rw [if_pos rfl] at h; injection h with h; injection h with h; exact (Prod.mk.inj h).2.symm
        | false => rw [if_neg (by decide)] at h; cases h
      · rw [if_neg c5] at h; cases h
    · rw [if_neg c4] at h; injection h with h; injection h with h; exact (Prod.mk.inj h).2.symm
  omega
theorem headGo_size {s : ByteArray} : ∀ (n i : Nat), headGo s n i = none → (i : Int) ≤ s.size → ((i + n : Nat) : Int) ≤ s.size
  | 0, i, _, hi => hi
  | n + 1, i, h, hi => by
    rw [headGo] at h
    by_cases c1 : (i : Int) < s.size
    · rw [if_pos c1] at h
      by_cases c2 : okAt s i = true
      · rw [if_pos c2] at h
        have := headGo_size n (i + 1) h (by omega)
        omega
      · rw [if_neg c2] at h; cases h
    · rw [if_neg c1] at h; cases h
def parseEnd (s : ByteArray) : Except (Int × Int) (List (List S28) × Int) → Int × Int × List (List S28) × Int × Int
  | .error (a, c) => (0, 0, [], a, c)
  | .ok (acc, p) => if p < (s.size : Int) then (0, 0, [], p, 160) else (bt s 9, orB (bt s 12) (bt s 13), acc, 0, 0)
theorem parseEnd_more {s : ByteArray} {acc : List (List S28)} {p : Int} (h : p < (s.size : Int)) : parseEnd s (.ok (acc, p)) = (0, 0, [], p, 160) := if_pos h
theorem parseEnd_all {s : ByteArray} {acc : List (List S28)} {p : Int} (h : ¬ p < (s.size : Int)) : parseEnd s (.ok (acc, p)) = (bt s 9, orB (bt s 12) (bt s 13), acc, 0, 0) := if_neg h
def ParsePost (w : World) (r : Int × Int × List (List S28) × Int × Int) (e : Ending) (w' : World) : Prop :=
  ∃ v2_ : Value, e = .returned (.tuple #[.agg #[.int .i64 r.1, .int .i64 r.2.1, v2_], .int .i64 r.2.2.2.1, .int .i64 r.2.2.2.2]) ∧ Kd.S (Kd.slice 28 k28) 30 w' w.heap.size (fun _ => True) v2_ r.2.2.1 ∧ Below w.heap.size w w'
structure Pz (s : ByteArray) (w W : World) (p : Int) (acc : List (List S28)) (v : Value) : Prop where
  st : IsS60 w W (w.heap.size + 1 + 1 + 1) s p
  fl : W.heap[w.heap.size]? = some (.cells #[.int .i64 (bt s 9), .int .i64 (orB (bt s 12) (bt s 13)), v] 24 (0, 0))
  ra : W.heap[w.heap.size + 1]? = some (.cells #[.int .i64 0] 3 (0, 0))
  re : W.heap[w.heap.size + 1 + 1]? = some (.cells #[.int .i64 0] 33 (0, 0))
  ow : Kd.S (Kd.slice 28 k28) 30 W w.heap.size (fun _ => True) v acc
  be : Below w.heap.size w W
  le : 0 ≤ p ∧ p ≤ s.size
set_option maxHeartbeats 8000000 in
set_option maxRecDepth 100000 in
theorem parse_body (k : Nat) (s : ByteArray) (w : World) (r : Except (Int × Int) (List (List S28) × Int)) (hs : s.size ≤ 100000) (hh : headGo s 14 0 = none) (hr : parseL k s (bt s 11) k 14 [] = some r) :
    Calls Try.prog 21 #[.string s] w (ParsePost w (parseEnd s r)) := by
  have hd : decide ((s.size : Int) > 100000) = false := decide_eq_false (by omega)
  have hmf : ∀ (fn : Fn) (first cap : Array Value) (w : World), (Instr.makeFunc fn first cap).run Try.prog w = .ok (.func fn first cap) w := fun _ _ _ _ => rfl
  have hneq : ∀ (W : World) (a : Option Addr) (n c : Nat), (binOp .neq 30 (.slice a n c) (.slice none 0 0)).run Try.prog W = .ok (.bool (!a.isNone)) W := fun W a n c => run_neq_slice_nil W 30 28 a n c Try.underlying30
  have HRR := Aside0.mk hr
  clear hr
  go_enter_defers Try.func21, Try.ntmps21
  go_wp2_with fail
  go_at_call 32
  refine (head_calls (w.heap.size + 1 + 1 + 1) w.heap.size s w (begun s w) (begun_r s w) (begun_f s w) (Nat.le_refl _) (begun_b s w) hs).mono ?_
  rintro e w1 ⟨hb, hk, x, y, hf, he⟩
  rw [hh] at he
  obtain ⟨rfl, hi, rfl, rfl⟩ := he
  have HP := Aside0.mk (⟨hi, hf, hk.blk (begun_a s w) (by omega) (fun z => by have := Option.some.inj z; omega), hk.blk (begun_e s w) (by omega) (fun z => by have := Option.some.inj z; omega), Kd.S_nil _ _ _ _ _, hb, by have := headGo_size 14 0 hh (by omega); omega⟩ : Pz s w w1 14 [] (.slice none 0 0))
  clear hk hf hb hi
  go_wp2
  go_loopg [] k (fun kq w' => ∃ (p : Int) (acc : List (List S28)) (v : Value), Aside0 (parseL k s (bt s 11) kq p acc = some r) ∧ Aside0 (Pz s w w' p acc v))
  case atStart => exact ⟨14, [], .slice none 0 0, HRR, HP⟩
  case round =>
    clear HRR HP
    obtain ⟨p, acc, v, HA, HP⟩ := hrel
    cases gk with
    | zero => exact absurd HA.out (by simp [parseL])
    | succ m =>
      obtain ⟨A, cap, rfl⟩ := Kd.S_slice HP.out.ow
      have H := HA.out
      rw [parseL] at H
      have H := Aside0.mk H
      clear HA
      have hc0 := (blk_cell HP.out.fl 0).trans rfl
      have hc1 := (blk_cell HP.out.fl 1).trans rfl
      have hc2 := (blk_cell HP.out.fl 2).trans rfl
      by_cases c1 : (acc.length : Int) < bt s 11
      · have hK := H.out
        rw [if_pos c1] at hK
        have c1b : decide ((acc.length : Int) < bt s 11) = true := decide_eq_true c1
        clear c1
        obtain ⟨r1, hr1, hK⟩ := Option.bind_eq_some_iff.mp hK
        have HC := Aside0.mk hr1
        have HK := Aside0.mk hK
        clear hr1 hK H
        go_wp2_with fail
        go_at_call 33
        refine (chunk_calls k (w.heap.size + 1 + 1 + 1) s p r1 w _ HP.out.st HP.out.be HP.out.le hs HC.out).mono ?_
        rintro e w2 ⟨hb, hk, hm⟩
        have hlt := HP.out.st.lt
        have HF := Aside0.mk (hk.blk HP.out.fl (by omega) (by simp))
        have HA := Aside0.mk (hk.blk HP.out.ra (by omega) (by simp))
        have HE := Aside0.mk (hk.blk HP.out.re (by omega) (by simp))
        have HS0 := Aside0.mk (Kd.S_keep (Kd.S_types (Kd.S_bound HP.out.ow) HP.out.st.1 (by decide)) hk (fun _ h_ => h_.2))
        have HB := Aside0.mk hb
        clear hb hk hc0 hc1 hc2
        cases r1 with
        | error ac =>
          obtain ⟨a, c⟩ := ac
          have he : e = gone a c := hm
          have hr : r = .error (a, c) := (Option.some.inj HK.out).symm
          subst hr
          clear hm HK HC HS0 HP
          simp only [gone] at he
          subst he
          go_wp2_with fail
          refine leaves_cons (f := 31) (args := #[.pointer (some ⟨w.heap.size, 0, none⟩), .pointer (some ⟨w.heap.size + 1, 0, none⟩), .pointer (some ⟨w.heap.size + 1 + 1, 0, none⟩)]) (by simp) (by simp [go_sem]) ?_
          refine (catch_panicking w.heap.size (w.heap.size + 1) (w.heap.size + 1 + 1) a c _ _ 0 0 _ [] w w2 HB.out (Nat.le_refl _) (by omega) (by omega) (by omega) (by omega) (by omega) HF.out HA.out HE.out).mono ?_
          rintro e u' w'' ⟨rfl, rfl, h1, h2, h3, h4⟩
          have q0 := (blk_cell h1 0).trans rfl
          have q1 := (blk_cell h1 1).trans rfl
          have q2 := (blk_cell h1 2).trans rfl
          have q3 := (blk_cell h2 0).trans rfl
          have q4 := (blk_cell h3 0).trans rfl
          simp [Leaves, settle, results, Try.results21, go_sem, q0, q1, q2, q3, q4]
          exact ⟨_, rfl, Kd.S_nil _ _ _ _ _, h4⟩
        | ok lq =>
          obtain ⟨l, q⟩ := lq
          obtain ⟨vl, rfl, hnil, hR, hi⟩ := hm
          have hq := chunk_le HP.out.le HC.out
          have HQ := Aside0.mk hq
          have hK := HK.out
          replace hK : (if l.length = 0 then parseL k s (bt s 11) m q acc else if acc.length < 5864062014805 then parseL k s (bt s 11) m q (acc ++ [l]) else none) = some r := hK
          have HI := Aside0.mk hi
          clear hi hq HK HC
          by_cases cl : l.length = 0
          · rw [if_pos cl] at hK
            have hv := hnil (List.eq_nil_of_length_eq_zero cl)
            subst hv
            have HN := Aside0.mk hK
            have HP2 := Aside0.mk (⟨HI.out, HF.out, HA.out, HE.out, Kd.S_mono HS0.out (fun _ _ => trivial), HB.out, HQ.out⟩ : Pz s w w2 q acc (.slice A acc.length cap))
            clear hK hR hnil cl HP HS0
            go_wp2
            go_roundg m
            case measure => omega
            case rel => exact ⟨q, acc, _, HN, HP2⟩
          · rw [if_neg cl] at hK
            by_cases c2 : acc.length < 5864062014805
            · rw [if_pos c2] at hK
              have HN := Aside0.mk hK
              have HL := Aside0.mk c2
              clear hK c2 hnil
              have hbase := Kd.R_base hR
              obtain ⟨ad, cl2, rfl⟩ := Kd.R_slice1 hR (by omega)
              have HS := Aside0.mk (Kd.S_mono (ok' := fun k_ => True ∧ some k_ ≠ (Value.slice (some ad) l.length cl2).ownBlock) HS0.out (fun k_ hk_ => ⟨trivial, fun e_ => by have h1 := hbase k_ e_.symm; have h2 := hk_.1.2.2.1; omega⟩))
              have HR := Aside0.mk (Kd.R_lower hR HP.out.be.size)
              clear hR hbase HS0 HP cl
              have hz0 := (blk_cell HF.out 2).trans rfl
              go_wp2_with (first | ((with_reducible refine gate_builtin (b := .append) (xs := #[.tmp 28, .tmp 30]) rfl ?_); at_builtin; refine Kd.S_append (Kd.slice 28 k28) (w0 := w) w.heap.size rfl (.tmp 28) (.tmp 30) 22 30 (.slice none 0 0) 24 rfl Try.underlying22 info30 rfl (by decide) (by omega) (.slice A acc.length cap) acc l [.slice (some ad) l.length cl2] (fun _ => True) (fun k_ => some k_ = (.slice (some ad) l.length cl2 : Value).ownBlock) rfl rfl ?aP (fun k_ hk_ => ((Kd.R_mono (ok' := fun k_ => ((fun _ => True)) k_ ∧ some k_ ≠ (.slice A acc.length cap : Value).ownBlock) (Kd.R_apart' (HR.out) (Kd.S_typed HS.out) (by decide)) (fun k_ hk => ⟨trivial, hk.2⟩))).1 k_ hk_.symm) ?aF ?aO ?aB ?aS ?aL ?_; (case aP => exact Kd.M_row (Kd.R_mono (Kd.R_tight rfl (Kd.R_mono (ok' := fun k_ => ((fun _ => True)) k_ ∧ some k_ ≠ (.slice A acc.length cap : Value).ownBlock) (Kd.R_apart' (HR.out) (Kd.S_typed HS.out) (by decide)) (fun k_ hk => ⟨trivial, hk.2⟩))) (fun _ h_ => h_))); (case aB => exact HB.out); (case aF => exact (fun _ _ => trivial)); (case aO => exact Kd.S_mono HS.out (fun k_ hk => ⟨trivial, fun e_ => hk.2 e_⟩)); (case aS => exact HB.out.size); (case aL => have := HL.out; omega); intro v3 w3 ho hb hg hat; obtain ⟨A3, c3, rfl⟩ := Kd.S_slice ho; have HO := Aside0.mk ho; have HF3 := Aside0.mk (blk_grown HF.out hg (Kd.S_ne HS.out HF.out (by decide))); have HA3 := Aside0.mk (blk_grown HA.out hg (Kd.S_ne HS.out HA.out (by decide))); have HE3 := Aside0.mk (blk_grown HE.out hg (Kd.S_ne HS.out HE.out (by decide))); have HI3 := Aside0.mk (HI.out.grown hg (Kd.S_ne HS.out HI.out.1 (by decide))); have HB3 := Aside0.mk hb; have hz2 := (blk_cell HF3.out 2).trans rfl; have hzf := blk_frozen HF3.out 2; clear ho hb hg hat HS HR))
              have HP4 := Aside0.mk (⟨HI3.out.far (by show w.heap.size + 1 + 1 + 1 ≠ w.heap.size; omega) _, by simpa using blk_set HF3.out 2 (.slice A3 (acc ++ [l]).length c3), blk_far HA3.out qq1x _, blk_far HE3.out qq1t _, Kd.S_set HO.out HF3.out (by decide) 2 _, below_set HB3.out (Nat.le_refl _), HQ.out⟩ : Pz s w (w3.setCell ⟨w.heap.size, 2, none⟩ (.slice A3 (acc ++ [l]).length c3)) q (acc ++ [l]) (.slice A3 (acc ++ [l]).length c3))
              go_roundg m
              case measure => omega
              case rel => exact ⟨q, acc ++ [l], _, HN, by have h9 := HP4; simp only [List.length_append, List.length_singleton] at h9; exact h9⟩
            · rw [if_neg c2] at hK; cases hK
      · have hK := H.out
        rw [if_neg c1] at hK
        have c1b : decide ((acc.length : Int) < bt s 11) = false := decide_eq_false c1
        have hr : r = .ok (acc, p) := (Option.some.inj hK).symm
        subst hr
        clear c1 hK H
        have hp1 := cellS60_1 HP.out.st.1
        by_cases c3 : p < (s.size : Int)
        · have c3b : decide (p < (s.size : Int)) = true := decide_eq_true c3
          have C3 := Aside0.mk c3
          clear c3
          go_wp2_with (go_at_call 34; refine (fail_calls _ _ _).mono ?_; rintro e w' ⟨he, rfl⟩; simp only [gone] at he; subst he)
          refine leaves_cons (f := 31) (args := #[.pointer (some ⟨w.heap.size, 0, none⟩), .pointer (some ⟨w.heap.size + 1, 0, none⟩), .pointer (some ⟨w.heap.size + 1 + 1, 0, none⟩)]) (by simp) (by simp [go_sem]) ?_
          refine (catch_panicking w.heap.size (w.heap.size + 1) (w.heap.size + 1 + 1) p 160 _ _ 0 0 _ [] w _ HP.out.be (Nat.le_refl _) (by omega) (by omega) (by omega) (by omega) (by omega) HP.out.fl HP.out.ra HP.out.re).mono ?_
          rintro e u' w'' ⟨rfl, rfl, h1, h2, h3, h4⟩
          have q0 := (blk_cell h1 0).trans rfl
          have q1 := (blk_cell h1 1).trans rfl
          have q2 := (blk_cell h1 2).trans rfl
          have q3 := (blk_cell h2 0).trans rfl
          have q4 := (blk_cell h3 0).trans rfl
          simp [Leaves, settle, results, Try.results21, go_sem, q0, q1, q2, q3, q4]
          rw [parseEnd_more C3.out]
          exact ⟨_, rfl, Kd.S_nil _ _ _ _ _, h4⟩
        · have c3b : decide (p < (s.size : Int)) = false := decide_eq_false c3
          have C3 := Aside0.mk (show ¬ p < (s.size : Int) from c3)
          clear c3
          have hf0 := blk_frozen HP.out.fl 0
          have hf1 := blk_frozen HP.out.fl 1
          have hf2 := blk_frozen HP.out.fl 2
          have ha0 := (blk_cell HP.out.ra 0).trans rfl
          have haf := blk_frozen HP.out.ra 0
          have he0 := (blk_cell HP.out.re 0).trans rfl
          have hef := blk_frozen HP.out.re 0
          have g1 : (wr.setCell ⟨w.heap.size, 0, none⟩ (.int .i64 (bt s 9))).heap[w.heap.size]? = some (.cells #[.int .i64 (bt s 9), .int .i64 (orB (bt s 12) (bt s 13)), .slice A acc.length cap] 24 (0, 0)) := by simpa using blk_set HP.out.fl 0 (.int .i64 (bt s 9))
          have o1 := Kd.S_set HP.out.ow HP.out.fl (by decide) 0 (.int .i64 (bt s 9))
          have a1 := blk_far HP.out.ra (p := ⟨w.heap.size, 0, none⟩) qq1x (.int .i64 (bt s 9))
          have e1 := blk_far HP.out.re (p := ⟨w.heap.size, 0, none⟩) qq1t (.int .i64 (bt s 9))
          have g2 : ((wr.setCell ⟨w.heap.size, 0, none⟩ (.int .i64 (bt s 9))).setCell ⟨w.heap.size, 1, none⟩ (.int .i64 (orB (bt s 12) (bt s 13)))).heap[w.heap.size]? = some (.cells #[.int .i64 (bt s 9), .int .i64 (orB (bt s 12) (bt s 13)), .slice A acc.length cap] 24 (0, 0)) := by simpa using blk_set g1 1 (.int .i64 (orB (bt s 12) (bt s 13)))
          have o2 := Kd.S_set o1 g1 (by decide) 1 (.int .i64 (orB (bt s 12) (bt s 13)))
          have a2 := blk_far a1 (p := ⟨w.heap.size, 1, none⟩) qq1x (.int .i64 (orB (bt s 12) (bt s 13)))
          have e2 := blk_far e1 (p := ⟨w.heap.size, 1, none⟩) qq1t (.int .i64 (orB (bt s 12) (bt s 13)))
          have g3 : (((wr.setCell ⟨w.heap.size, 0, none⟩ (.int .i64 (bt s 9))).setCell ⟨w.heap.size, 1, none⟩ (.int .i64 (orB (bt s 12) (bt s 13)))).setCell ⟨w.heap.size, 2, none⟩ (.slice A acc.length cap)).heap[w.heap.size]? = some (.cells #[.int .i64 (bt s 9), .int .i64 (orB (bt s 12) (bt s 13)), .slice A acc.length cap] 24 (0, 0)) := by simpa using blk_set g2 2 (.slice A acc.length cap)
          have o3 := Kd.S_set o2 g2 (by decide) 2 (.slice A acc.length cap)
          have a3 := blk_far a2 (p := ⟨w.heap.size, 2, none⟩) qq1x (.slice A acc.length cap)
          have e3 := blk_far e2 (p := ⟨w.heap.size, 2, none⟩) qq1t (.slice A acc.length cap)
          have g4 := blk_far g3 (p := ⟨w.heap.size + 1, 0, none⟩) (by show w.heap.size ≠ w.heap.size + 1; omega) (.int .i64 0)
          have o4 := Kd.S_set o3 a3 (by decide) 0 (.int .i64 0)
          have a4 := blk_set a3 0 (.int .i64 0)
          have e4 := blk_far e3 (p := ⟨w.heap.size + 1, 0, none⟩) (by show w.heap.size + 1 + 1 ≠ w.heap.size + 1; omega) (.int .i64 0)
          have g5 := blk_far g4 (p := ⟨w.heap.size + 1 + 1, 0, none⟩) (by show w.heap.size ≠ w.heap.size + 1 + 1; omega) (.int .i64 0)
          have o5 := Kd.S_set o4 e4 (by decide) 0 (.int .i64 0)
          have a5 := blk_far a4 (p := ⟨w.heap.size + 1 + 1, 0, none⟩) (by show w.heap.size + 1 ≠ w.heap.size + 1 + 1; omega) (.int .i64 0)
          have e5 := blk_set e4 0 (.int .i64 0)
          have G5 := Aside0.mk g5
          have O5 := Aside0.mk o5
          have A5 := Aside0.mk a5
          have E5 := Aside0.mk e5
          have B5 := Aside0.mk (below_set (j := 0) (v := .int .i64 0) (below_set (j := 0) (v := .int .i64 0) (below_set (j := 2) (v := .slice A acc.length cap) (below_set (j := 1) (v := .int .i64 (orB (bt s 12) (bt s 13))) (below_set (j := 0) (v := .int .i64 (bt s 9)) HP.out.be (Nat.le_refl _)) (Nat.le_refl _)) (Nat.le_refl _)) (show w.heap.size ≤ w.heap.size + 1 by omega)) (show w.heap.size ≤ w.heap.size + 1 + 1 by omega))
          clear g1 g2 g3 g4 g5 o1 o2 o3 o4 o5 a1 a2 a3 a4 a5 e1 e2 e3 e4 e5
          go_wp2
          refine leaves_cons (f := 31) (args := #[.pointer (some ⟨w.heap.size, 0, none⟩), .pointer (some ⟨w.heap.size + 1, 0, none⟩), .pointer (some ⟨w.heap.size + 1 + 1, 0, none⟩)]) (by simp) (by simp [go_sem]) ?_
          refine (catch_idle _ _ _ _).mono ?_
          rintro e u' w'' ⟨rfl, rfl, rfl⟩
          have q0 := (blk_cell G5.out 0).trans rfl
          have q1 := (blk_cell G5.out 1).trans rfl
          have q2 := (blk_cell G5.out 2).trans rfl
          have q3 := (blk_cell A5.out 0).trans rfl
          have q4 := (blk_cell E5.out 0).trans rfl
          simp [Leaves, settle, results, Try.results21, go_sem, q0, q1, q2, q3, q4]
          rw [parseEnd_all (show ¬ p < (s.size : Int) by have := C3.out; omega)]
          exact ⟨_, rfl, O5.out, B5.out⟩
end Go.Proofs.Ytdmnknhlibaaoaa.M
namespace Go.Proofs.Ytdmnknhlibaaoaa.M
open Go.RowKit Go.Proofs.YtdmnknhlibaaoaaW.PrintWords Go.Proofs.YtdmnknhlibaaoaaW.PrintLast Go.Proofs.YtdmnknhlibaaoaaW.PrintMore
set_option linter.unusedVariables false
set_option linter.unusedSimpArgs false
theorem chunkF_mono (k : Nat) (s : ByteArray) (p : Int) : LeO (chunkF k s p) (chunkF (k + 1) s p) := by
  unfold chunkF
  refine LeO.ite (LeO.refl _) (LeO.ite (LeO.refl _) (LeO.ite (LeO.refl _) (LeO.ite (LeO.bind (wire_Decode.mono _ _) (fun d => LeO.ite (LeO.bind (smf_ends.mono _ _) (fun _ => LeO.refl _)) (LeO.refl _))) (LeO.refl _))))
theorem parseL_mono (k : Nat) (s : ByteArray) (n : Int) : ∀ (m : Nat) (p : Int) (acc : List (List S28)), LeO (parseL k s n m p acc) (parseL (k + 1) s n (m + 1) p acc)
  | 0, p, acc => LeO.none _
  | m + 1, p, acc => by
    rw [parseL, parseL]
    refine LeO.ite (LeO.bind (chunkF_mono k s p) (fun r => ?_)) (LeO.refl _)
    cases r with
    | error x => exact LeO.refl _
    | ok lq => exact LeO.ite (parseL_mono k s n m _ _) (LeO.ite (parseL_mono k s n m _ _) (LeO.refl _))
theorem smf_Parse.mono : ∀ a0 k, LeO (smf_Parse.f k a0) (smf_Parse.f (k + 1) a0) := by
  intro s k
  unfold smf_Parse.f
  refine LeO.ite (LeO.refl _) ?_
  cases headGo s 14 0 with
  | some x => exact LeO.refl _
  | none => exact LeO.bind (parseL_mono k s _ k _ _) (fun _ => LeO.refl _)
theorem smf_Parse.calls (k : Nat) (a0 : ByteArray) (r1 : Int) (r2 : Int) (r3 : List (List (S28))) (r4 : Int) (r5 : Int) (w : World) (h : smf_Parse.f k a0 = some (r1, r2, r3, r4, r5)) :
    Calls Try.prog 21 #[.string a0] w fun e w' => ∃ v2_ : Value, e = .returned (.tuple #[.agg #[.int .i64 r1, .int .i64 r2, v2_], .int .i64 r4, .int .i64 r5]) ∧ Kd.S (Kd.slice 28 k28) 30 w' w.heap.size (fun _ => True) v2_ r3 ∧ Below w.heap.size w w' := by
  unfold smf_Parse.f at h
  by_cases c1 : (a0.size : Int) > 100000
  · rw [if_pos c1] at h
    injection h with h
    simp only [Prod.mk.injEq] at h
    obtain ⟨rfl, rfl, rfl, rfl, rfl⟩ := h
    refine (parse_long a0 w c1).mono ?_
    rintro e w' ⟨rfl, hb⟩
    exact ⟨_, rfl, Kd.S_nil _ _ _ _ _, hb⟩
  · rw [if_neg c1] at h
    have hs : a0.size ≤ 100000 := by omega
    cases hh : headGo a0 14 0 with
    | some x =>
      obtain ⟨a, c⟩ := x
      rw [hh] at h
      injection h with h
      simp only [Prod.mk.injEq] at h
      obtain ⟨rfl, rfl, rfl, rfl, rfl⟩ := h
      refine (parse_head a0 w a c hs hh).mono ?_
      rintro e w' ⟨rfl, hb⟩
      exact ⟨_, rfl, Kd.S_nil _ _ _ _ _, hb⟩
    | none =>
      rw [hh] at h
      obtain ⟨r, hr, h⟩ := Option.bind_eq_some_iff.mp h
      have he : parseEnd a0 r = (r1, r2, r3, r4, r5) := by
        cases r with
        | error x => exact Option.some.inj h
        | ok x =>
          obtain ⟨acc, p⟩ := x
          by_cases c2 : p < (a0.size : Int)
          · rw [parseEnd_more c2]
            have h2 : (if p < (a0.size : Int) then some ((0 : Int), (0 : Int), ([] : List (List S28)), p, (160 : Int)) else some (bt a0 9, orB (bt a0 12) (bt a0 13), acc, 0, 0)) = some (r1, r2, r3, r4, r5) := h
            rw [if_pos c2] at h2
            exact Option.some.inj h2
          · rw [parseEnd_all c2]
            have h2 : (if p < (a0.size : Int) then some ((0 : Int), (0 : Int), ([] : List (List S28)), p, (160 : Int)) else some (bt a0 9, orB (bt a0 12) (bt a0 13), acc, 0, 0)) = some (r1, r2, r3, r4, r5) := h
            rw [if_neg c2] at h2
            exact Option.some.inj h2
      refine (parse_body k a0 w r hs hh hr).mono ?_
      rw [he]
      intro e w' hp
      exact hp
end Go.Proofs.Ytdmnknhlibaaoaa.M
namespace Go.Proofs.Ytdmnknhlibaaoaa.Z
open Go.RowKit Go.Proofs.YtdmnknhlibaaoaaW.PrintWords Go.Proofs.YtdmnknhlibaaoaaW.PrintLast Go.Proofs.YtdmnknhlibaaoaaW.PrintMore Go.Proofs.Ytdmnknhlibaaoaa.M
set_option linter.unusedVariables false
def val4 (b : List Int) : Int := ((rd b 0 * 256 + rd b 1) * 256 + rd b 2) * 256 + rd b 3
theorem val4_four {n : Int} (h0 : 0 ≤ n) (h1 : n < 4294967296) : val4 (four n) = n := by
  show ((n / 16777216 % 256 * 256 + n / 65536 % 256) * 256 + n / 256 % 256) * 256 + n % 256 = n
  omega
theorem numB_eq (t : ByteArray) : numB t 4 = val4 (bytesOf t) := by
  have b0 := bt_range t ((0 : Nat) : Int)
  have b1 := bt_range t ((1 : Nat) : Int)
  have b2 := bt_range t ((2 : Nat) : Int)
  have b3 := bt_range t ((3 : Nat) : Int)
  obtain ⟨r1, r2, r3, _⟩ := numB_range t
  have e0 : numB t 0 = 0 := rfl
  have e1 : numB t 1 = numB t 0 * 256 + bt t ((0 : Nat) : Int) := numB_step (t := t) (k := 0) (by omega) (by omega)
  have e2 : numB t 2 = numB t 1 * 256 + bt t ((1 : Nat) : Int) := numB_step (t := t) (k := 1) (by omega) (by omega)
  have e3 : numB t 3 = numB t 2 * 256 + bt t ((2 : Nat) : Int) := numB_step (t := t) (k := 2) (by omega) (by omega)
  have e4 : numB t 4 = numB t 3 * 256 + bt t ((3 : Nat) : Int) := numB_step (t := t) (k := 3) (by omega) (by omega)
  rw [e4, e3, e2, e1, e0]
  unfold val4
  rw [rd_bytesOf, rd_bytesOf, rd_bytesOf, rd_bytesOf]
  simp
theorem body_e {d c e : Int} {r : List Int} (h : body d c r = .error e) : e ≠ 0 := by
  by_cases c1 : c = 255
  · subst c1
    rw [body_255] at h
    cases hl : low r with
    | error e' => rw [hl] at h; injection h with h; subst h; rcases low_e hl with rfl | rfl <;> decide
    | ok x =>
      obtain ⟨a, r1⟩ := x
      rw [hl] at h
      dsimp only at h
      cases hd : dat r1 with
      | error e' => rw [hd] at h; injection h with h; subst h; rcases dat_e hd with rfl | rfl | rfl <;> decide
      | ok y => obtain ⟨bs, r2⟩ := y; rw [hd] at h; cases h
  · by_cases c2 : c ≥ 240
    · rw [body_sys c1 c2] at h
      cases hd : dat r with
      | error e' => rw [hd] at h; injection h with h; subst h; rcases dat_e hd with rfl | rfl | rfl <;> decide
      | ok y => obtain ⟨bs, r2⟩ := y; rw [hd] at h; cases h
    · rw [body_key (by omega)] at h
      cases hl : low r with
      | error e' => rw [hl] at h; injection h with h; subst h; rcases low_e hl with rfl | rfl <;> decide
      | ok x =>
        obtain ⟨a, r1⟩ := x
        rw [hl] at h
        dsimp only at h
        by_cases c3 : c / 16 = 12 ∨ c / 16 = 13
        · rw [if_pos c3] at h; cases h
        · rw [if_neg c3] at h
          cases hl2 : low r1 with
          | error e' => rw [hl2] at h; injection h with h; subst h; rcases low_e hl2 with rfl | rfl <;> decide
          | ok y => obtain ⟨b, r2⟩ := y; rw [hl2] at h; cases h
theorem msg_e {l e : Int} {r : List Int} (h : msg l r = .error e) : e ≠ 0 := by
  cases hv : vlq 4 0 r with
  | error e' => unfold msg at h; rw [hv] at h; injection h with h; subst h; rcases vlq_e hv with rfl | rfl <;> decide
  | ok x =>
    obtain ⟨d, r1⟩ := x
    cases r1 with
    | nil => unfold msg at h; rw [hv] at h; injection h with h; subst h; decide
    | cons c r1 =>
      rw [msg_at hv] at h
      by_cases c1 : c < 128
      · rw [if_pos c1] at h
        by_cases c2 : l = 0
        · rw [if_pos c2] at h; injection h with h; subst h; decide
        · rw [if_neg c2] at h; exact body_e h
      · rw [if_neg c1] at h
        by_cases c2 : c > 240 ∧ c ≠ 247 ∧ c ≠ 255
        · rw [if_pos c2] at h; injection h with h; subst h; decide
        · rw [if_neg c2] at h; exact body_e h
theorem bad_e {l e : Int} {r : List Int} {n : Nat} (h : Bad l r e n) : e ≠ 0 := by
  induction h with
  | here _ hm => exact msg_e hm
  | later _ _ ih => exact ih
inductive ChR : List Int → Except (Nat × Int) (List Msg × List Int) → Prop
  | short {r : List Int} : r.length < 8 → ChR r (.error (0, 152))
  | cut {t b rest : List Int} : t.length = 4 → b.length = 4 → (rest.length : Int) < val4 b → ChR (t ++ (b ++ rest)) (.error (0, 152))
  | other {t b d rest : List Int} : t.length = 4 → b.length = 4 → (d.length : Int) = val4 b → t ≠ trkL → ChR (t ++ (b ++ (d ++ rest))) (.ok ([], rest))
  | track {b d rest : List Int} {ms : List Msg} : b.length = 4 → (d.length : Int) = val4 b → Dec 0 d ms → endsB ms = true → ChR (trkL ++ (b ++ (d ++ rest))) (.ok (ms, rest))
  | noend {b d rest : List Int} {ms : List Msg} : b.length = 4 → (d.length : Int) = val4 b → Dec 0 d ms → endsB ms = false → ChR (trkL ++ (b ++ (d ++ rest))) (.error (d.length + rest.length, 160))
  | bad {b d rest : List Int} {e : Int} {j : Nat} : b.length = 4 → (d.length : Int) = val4 b → Bad 0 d e j → ChR (trkL ++ (b ++ (d ++ rest))) (.error (j + rest.length, e))
def chAt (s : ByteArray) : Except (Nat × Int) (List Msg × List Int) → Except (Int × Int) (List S28 × Int)
  | .error (n, e) => .error ((s.size : Int) - (n : Int), e)
  | .ok (ms, r) => .ok (ms, pos s r)
theorem suf_len {s : ByteArray} {r : List Int} (h : Suf s r) : r.length ≤ s.size := by have := h.len; omega
theorem pos_app {s : ByteArray} {a r : List Int} : pos s r = pos s (a ++ r) + (a.length : Int) := by unfold pos; rw [List.length_append]; omega
theorem suf_extract {s : ByteArray} {a r : List Int} (h : Suf s (a ++ r)) : bytesOf (s.extract (pos s (a ++ r)).toNat (pos s (a ++ r) + (a.length : Int)).toNat) = a := by
  rw [bytesOf_extract, pos_drop h]
  have h0 := pos_nonneg h
  have : (pos s (a ++ r) + (a.length : Int)).toNat - (pos s (a ++ r)).toNat = a.length := by omega
  rw [this, List.take_left]
theorem toList_bytes (s t : ByteArray) : s.toList = t.toList ↔ bytesOf s = bytesOf t := ⟨fun h => by rw [toList_eq.1 h], fun h => by rw [bytesOf_inj h]⟩
theorem trk_list : ([77, 84, 114, 107] : List UInt8) = (⟨#[77, 84, 114, 107]⟩ : ByteArray).toList := by rw [Lib.toList_data]
theorem bytesOf_len_size {s : ByteArray} {l : List Int} (h : bytesOf s = l) : s.size = l.length := by rw [← h, bytesOf_length]
section
variable {s : ByteArray} (hs : s.size ≤ 100000)
include hs
theorem chunk_track {b d rest : List Int} (h : Suf s (trkL ++ (b ++ (d ++ rest)))) (hb : b.length = 4) (hd : (d.length : Int) = val4 b) {o : Except (Int × Int) (List S28 × Int)}
    (k : ∀ t : ByteArray, bytesOf t = d → t.size ≤ 1000000000 → Ev (fun k => (wire_Decode.f k t).bind fun x => if x.2.2 = 0 then (smf_ends.f k x.1).bind fun q => if q = true then some (.ok (x.1, pos s rest)) else some (.error (pos s (d ++ rest), 160)) else some (.error (wrap64 (pos s (d ++ rest) + x.2.1), x.2.2))) o) :
    Ev (fun k => chunkF k s (pos s (trkL ++ (b ++ (d ++ rest))))) o := by
  have hl := suf_len h
  simp only [List.length_append] at hl
  have h4 : trkL.length = 4 := rfl
  have p0 := pos_nonneg h
  have p1 : pos s (b ++ (d ++ rest)) = pos s (trkL ++ (b ++ (d ++ rest))) + 4 := pos_app
  have p2 : pos s (d ++ rest) = pos s (trkL ++ (b ++ (d ++ rest))) + 8 := by have := pos_app (s := s) (a := b) (r := d ++ rest); omega
  have p3 : pos s rest = pos s (d ++ rest) + (d.length : Int) := pos_app
  have hp : pos s (trkL ++ (b ++ (d ++ rest))) = (s.size : Int) - (4 + (4 + (d.length + rest.length)) : Nat) := by unfold pos; simp only [List.length_append, h4, hb]
  have hn : numB (s.extract (pos s (trkL ++ (b ++ (d ++ rest))) + 4).toNat (pos s (trkL ++ (b ++ (d ++ rest))) + 8).toNat) 4 = (d.length : Int) := by
    rw [numB_eq, hd]
    refine congrArg val4 ?_
    have := suf_extract (s := s) (a := b) (r := d ++ rest) h.of
    rw [p1, hb, show (((4 : Nat) : Int)) = 4 from rfl, show pos s (trkL ++ (b ++ (d ++ rest))) + 4 + 4 = pos s (trkL ++ (b ++ (d ++ rest))) + 8 by omega] at this
    exact this
  have ht : bytesOf (s.extract (pos s (trkL ++ (b ++ (d ++ rest)))).toNat (pos s (trkL ++ (b ++ (d ++ rest))) + 4).toNat) = trkL := suf_extract h
  have hx : bytesOf (s.extract (pos s (trkL ++ (b ++ (d ++ rest))) + 8).toNat (pos s (trkL ++ (b ++ (d ++ rest))) + 8 + (d.length : Int)).toNat) = d := by
    have := suf_extract (s := s) (a := d) (r := rest) h.of.of
    rw [p2] at this
    exact this
  have hk := k _ hx (by have := bytesOf_len_size hx; omega)
  rw [p3, p2] at hk
  unfold chunkF
  rw [hn]
  generalize pos s (trkL ++ (b ++ (d ++ rest))) = p at *
  refine Ev.no (by omega) (Ev.no (by omega) (Ev.no (by omega) (Ev.yes ?_ hk)))
  rw [trk_list, toList_bytes, ht]
  rfl
theorem chunk_ev {r : List Int} {o : Except (Nat × Int) (List Msg × List Int)} (h : ChR r o) (hr : Suf s r) : Ev (fun k => chunkF k s (pos s r)) (chAt s o) := by
  cases h with
  | short h =>
    have hp : pos s r = (s.size : Int) - (r.length : Int) := rfl
    unfold chunkF
    by_cases c : (s.size : Int) - pos s r < 4
    · exact Ev.yes c (Ev.ok (Ev.now _) (by unfold chAt; simp))
    · exact Ev.no c (Ev.yes (by omega) (Ev.ok (Ev.now _) (by unfold chAt; simp)))
  | @cut t b rest ht hb h =>
    have p0 := pos_nonneg hr
    have p1 : pos s (b ++ rest) = pos s (t ++ (b ++ rest)) + 4 := by have := pos_app (s := s) (a := t) (r := b ++ rest); omega
    have hp : pos s (t ++ (b ++ rest)) = (s.size : Int) - (4 + (4 + rest.length) : Nat) := by unfold pos; simp only [List.length_append, ht, hb]
    have hn : numB (s.extract (pos s (t ++ (b ++ rest)) + 4).toNat (pos s (t ++ (b ++ rest)) + 8).toNat) 4 = val4 b := by
      rw [numB_eq]
      refine congrArg val4 ?_
      have := suf_extract (s := s) (a := b) (r := rest) hr.of
      rw [p1, hb, show (((4 : Nat) : Int)) = 4 from rfl, show pos s (t ++ (b ++ rest)) + 4 + 4 = pos s (t ++ (b ++ rest)) + 8 by omega] at this
      exact this
    unfold chunkF
    rw [hn]
    refine Ev.no (by omega) (Ev.no (by omega) (Ev.yes (by omega) (Ev.ok (Ev.now _) (by unfold chAt; simp))))
  | @other t b d rest ht hb hd hne =>
    have p0 := pos_nonneg hr
    have p1 : pos s (b ++ (d ++ rest)) = pos s (t ++ (b ++ (d ++ rest))) + 4 := by have := pos_app (s := s) (a := t) (r := b ++ (d ++ rest)); omega
    have p2 : pos s (d ++ rest) = pos s (t ++ (b ++ (d ++ rest))) + 8 := by have := pos_app (s := s) (a := b) (r := d ++ rest); omega
    have p3 : pos s rest = pos s (d ++ rest) + (d.length : Int) := pos_app
    have hp : pos s (t ++ (b ++ (d ++ rest))) = (s.size : Int) - (4 + (4 + (d.length + rest.length)) : Nat) := by unfold pos; simp only [List.length_append, ht, hb]
    have hn : numB (s.extract (pos s (t ++ (b ++ (d ++ rest))) + 4).toNat (pos s (t ++ (b ++ (d ++ rest))) + 8).toNat) 4 = (d.length : Int) := by
      rw [numB_eq, hd]
      refine congrArg val4 ?_
      have := suf_extract (s := s) (a := b) (r := d ++ rest) hr.of
      rw [p1, hb, show (((4 : Nat) : Int)) = 4 from rfl, show pos s (t ++ (b ++ (d ++ rest))) + 4 + 4 = pos s (t ++ (b ++ (d ++ rest))) + 8 by omega] at this
      exact this
    have htt : bytesOf (s.extract (pos s (t ++ (b ++ (d ++ rest)))).toNat (pos s (t ++ (b ++ (d ++ rest))) + 4).toNat) = t := by
      have := suf_extract (s := s) hr
      rw [ht] at this
      exact this
    have he : pos s (t ++ (b ++ (d ++ rest))) + 8 + (d.length : Int) = pos s rest := by omega
    unfold chunkF
    rw [hn, he]
    generalize pos s (t ++ (b ++ (d ++ rest))) = p at *
    refine Ev.no (by omega) (Ev.no (by omega) (Ev.no (by omega) (Ev.no ?_ (Ev.now _))))
    rw [trk_list, toList_bytes, htt]
    exact hne
  | @track b d rest ms hb hd hdec he =>
    refine chunk_track hs hr hb hd fun t ht hsz => ?_
    have h1 := decode_ok hsz (by rw [ht]; exact hdec)
    have hlen := (enc_dec (.inl rfl) (hr.of.of.bytes.left) hdec).2.2
    have hl := suf_len hr
    simp only [List.length_append] at hl
    refine Ev.bind h1 (Ev.yes rfl (Ev.bind (ends_ev ms (by omega)) (Ev.yes he (Ev.now _))))
  | @noend b d rest ms hb hd hdec he =>
    refine chunk_track hs hr hb hd fun t ht hsz => ?_
    have h1 := decode_ok hsz (by rw [ht]; exact hdec)
    have hlen := (enc_dec (.inl rfl) (hr.of.of.bytes.left) hdec).2.2
    have hl := suf_len hr
    simp only [List.length_append] at hl
    refine Ev.bind h1 (Ev.yes rfl (Ev.bind (ends_ev ms (by omega)) (Ev.no (by rw [he]; decide) (Ev.ok (Ev.now _) ?_))))
    unfold chAt pos
    simp only [List.length_append]
  | @bad b d rest e j hb hd hbad =>
    refine chunk_track hs hr hb hd fun t ht hsz => ?_
    have h1 := decode_err hsz (by rw [ht]; exact hbad)
    have hne := bad_e hbad
    have hj := bad_len hbad (.inl rfl) (hr.of.of.bytes.left)
    have hl := suf_len hr
    simp only [List.length_append] at hl
    have hsz2 := bytesOf_len_size ht
    refine Ev.bind h1 (Ev.no hne (Ev.ok (Ev.now _) ?_))
    unfold chAt
    dsimp only
    have hp : pos s (d ++ rest) = (s.size : Int) - ((d.length + rest.length : Nat) : Int) := by unfold pos; rw [List.length_append]
    rw [w64 (by omega) (by omega)]
    congr 2
    omega
end
end Go.Proofs.Ytdmnknhlibaaoaa.Z
namespace Go.Proofs.Ytdmnknhlibaaoaa.Z
open Go.RowKit Go.Proofs.YtdmnknhlibaaoaaW.PrintWords Go.Proofs.YtdmnknhlibaaoaaW.PrintLast Go.Proofs.YtdmnknhlibaaoaaW.PrintMore Go.Proofs.Ytdmnknhlibaaoaa.M
set_option linter.unusedVariables false
inductive PrR : Nat → List Int → Except (Nat × Int) (List (List Msg) × List Int) → Prop
  | done (r : List Int) : PrR 0 r (.ok ([], r))
  | err {n : Nat} {r : List Int} {x : Nat × Int} : ChR r (.error x) → PrR (n + 1) r (.error x)
  | skip {n : Nat} {r r' : List Int} {o : Except (Nat × Int) (List (List Msg) × List Int)} : ChR r (.ok ([], r')) → PrR (n + 1) r' o → PrR (n + 1) r o
  | take {n : Nat} {r r' z : List Int} {l : List Msg} {ts : List (List Msg)} : ChR r (.ok (l, r')) → l ≠ [] → PrR n r' (.ok (ts, z)) → PrR (n + 1) r (.ok (l :: ts, z))
  | takeErr {n : Nat} {r r' : List Int} {l : List Msg} {x : Nat × Int} : ChR r (.ok (l, r')) → l ≠ [] → PrR n r' (.error x) → PrR (n + 1) r (.error x)
theorem ch_suf {s : ByteArray} {r r' : List Int} {l : List Msg} (h : ChR r (.ok (l, r'))) (hr : Suf s r) : Suf s r' := by
  cases h with
  | other => exact hr.of.of.of
  | track => exact hr.of.of.of
def prAt (s : ByteArray) (acc : List (List Msg)) : Except (Nat × Int) (List (List Msg) × List Int) → Except (Int × Int) (List (List S28) × Int)
  | .error (n, e) => .error ((s.size : Int) - (n : Int), e)
  | .ok (ts, r) => .ok (acc ++ ts, pos s r)
theorem parseL_ev {s : ByteArray} (hs : s.size ≤ 100000) {N : Int} {n : Nat} {r : List Int} {o : Except (Nat × Int) (List (List Msg) × List Int)} (h : PrR n r o) :
    ∀ (acc : List (List Msg)), Suf s r → (acc.length : Int) + n = N → N ≤ 255 → ∃ K, ∀ k, K ≤ k → ∀ m, K ≤ m → parseL k s N m (pos s r) acc = some (prAt s acc o) := by
  induction h with
  | done r =>
    intro acc hr hN hN2
    refine ⟨1, fun k hk m hm => ?_⟩
    obtain ⟨m, rfl⟩ : ∃ q, m = q + 1 := ⟨m - 1, by omega⟩
    rw [parseL, if_neg (by omega)]
    show some (Except.ok (acc, pos s r)) = some (Except.ok (acc ++ [], pos s r))
    rw [List.append_nil]
  | @err n r x hc =>
    intro acc hr hN hN2
    obtain ⟨K, hK'⟩ := chunk_ev hs hc hr
    have hK : ∀ k, K ≤ k → chunkF k s (pos s r) = some (chAt s (.error x)) := hK'
    refine ⟨K + 1, fun k hk m hm => ?_⟩
    obtain ⟨m, rfl⟩ : ∃ q, m = q + 1 := ⟨m - 1, by omega⟩
    rw [parseL, if_pos (by omega), hK k (by omega)]
    obtain ⟨a, e⟩ := x
    rfl
  | @skip n r r' o hc hp ih =>
    intro acc hr hN hN2
    obtain ⟨K, hK'⟩ := chunk_ev hs hc hr
    have hK : ∀ k, K ≤ k → chunkF k s (pos s r) = some (chAt s (.ok ([], r'))) := hK'
    obtain ⟨K2, hK2⟩ := ih acc (ch_suf hc hr) hN hN2
    refine ⟨K + K2 + 1, fun k hk m hm => ?_⟩
    obtain ⟨m, rfl⟩ : ∃ q, m = q + 1 := ⟨m - 1, by omega⟩
    rw [parseL, if_pos (by omega), hK k (by omega)]
    show (if ([] : List S28).length = 0 then parseL k s N m (pos s r') acc else if acc.length < 5864062014805 then parseL k s N m (pos s r') (acc ++ [[]]) else none) = _
    rw [if_pos List.length_nil]
    exact hK2 k (by omega) m (by omega)
  | @take n r r' z l ts hc hl hp ih =>
    intro acc hr hN hN2
    obtain ⟨K, hK'⟩ := chunk_ev hs hc hr
    have hK : ∀ k, K ≤ k → chunkF k s (pos s r) = some (chAt s (.ok (l, r'))) := hK'
    obtain ⟨K2, hK2⟩ := ih (acc ++ [l]) (ch_suf hc hr) qq1i hN2
    refine ⟨K + K2 + 1, fun k hk m hm => ?_⟩
    obtain ⟨m, rfl⟩ : ∃ q, m = q + 1 := ⟨m - 1, by omega⟩
    rw [parseL, if_pos (by omega), hK k (by omega)]
    have hl0 : ¬ l.length = 0 := fun h => hl (List.eq_nil_of_length_eq_zero h)
    show (if l.length = 0 then _ else if acc.length < 5864062014805 then parseL k s N m (pos s r') (acc ++ [l]) else none) = _
    rw [if_neg hl0, if_pos (by omega), hK2 k (by omega) m (by omega)]
    unfold prAt
    simp
  | @takeErr n r r' l x hc hl hp ih =>
    intro acc hr hN hN2
    obtain ⟨K, hK'⟩ := chunk_ev hs hc hr
    have hK : ∀ k, K ≤ k → chunkF k s (pos s r) = some (chAt s (.ok (l, r'))) := hK'
    obtain ⟨K2, hK2⟩ := ih (acc ++ [l]) (ch_suf hc hr) qq1i hN2
    refine ⟨K + K2 + 1, fun k hk m hm => ?_⟩
    obtain ⟨m, rfl⟩ : ∃ q, m = q + 1 := ⟨m - 1, by omega⟩
    rw [parseL, if_pos (by omega), hK k (by omega)]
    have hl0 : ¬ l.length = 0 := fun h => hl (List.eq_nil_of_length_eq_zero h)
    show (if l.length = 0 then _ else if acc.length < 5864062014805 then parseL k s N m (pos s r') (acc ++ [l]) else none) = _
    rw [if_neg hl0, if_pos (by omega), hK2 k (by omega) m (by omega)]
    obtain ⟨a, e⟩ := x
    rfl
def parseAns (s : ByteArray) : Except (Nat × Int) (List (List Msg) × List Int) → Int × Int × List (List Msg) × Int × Int
  | .error (n, e) => (0, 0, [], (s.size : Int) - (n : Int), e)
  | .ok (ts, r) => if r = [] then (bt s 9, orB (bt s 12) (bt s 13), ts, 0, 0) else (0, 0, [], pos s r, 160)
theorem parse_long {s : ByteArray} (h : (s.size : Int) > 100000) : Ev (fun k => smf_Parse.f k s) (0, 0, [], 0, 160) := ⟨0, fun k _ => by
  show smf_Parse.f k s = _
  unfold smf_Parse.f
  rw [if_pos h]⟩
theorem parse_headBad {s : ByteArray} (hs : s.size ≤ 100000) {a c : Int} (h : headGo s 14 0 = some (a, c)) : Ev (fun k => smf_Parse.f k s) (0, 0, [], a, c) := ⟨0, fun k _ => by
  show smf_Parse.f k s = _
  unfold smf_Parse.f
  rw [if_neg (by omega), h]⟩
theorem parse_ev {s : ByteArray} (hs : s.size ≤ 100000) (h : headGo s 14 0 = none) {p r : List Int} (hp : bytesOf s = p ++ r) (hl : p.length = 14) {o : Except (Nat × Int) (List (List Msg) × List Int)}
    (ho : PrR (bt s 11).toNat r o) : Ev (fun k => smf_Parse.f k s) (parseAns s o) := by
  have hb := bt_range s 11
  have hr : Suf s r := ⟨p, hp⟩
  have hpos : pos s r = 14 := by
    have := congrArg List.length hp
    rw [bytesOf_length, List.length_append] at this
    unfold pos
    omega
  obtain ⟨K, hK⟩ := parseL_ev hs (N := bt s 11) ho [] hr (by simp; omega) (by omega)
  refine ⟨K, fun k hk => ?_⟩
  have h1 := hK k hk k hk
  rw [hpos] at h1
  show smf_Parse.f k s = _
  unfold smf_Parse.f
  rw [if_neg (by omega), h]
  show (parseL k s (bt s 11) k 14 []).bind _ = _
  rw [h1]
  cases o with
  | error x =>
    obtain ⟨n, e⟩ := x
    rfl
  | ok x =>
    obtain ⟨ts, z⟩ := x
    show (if pos s z < (s.size : Int) then some ((0 : Int), (0 : Int), ([] : List (List S28)), pos s z, (160 : Int)) else some (bt s 9, orB (bt s 12) (bt s 13), [] ++ ts, 0, 0)) = some (if z = [] then (bt s 9, orB (bt s 12) (bt s 13), ts, 0, 0) else (0, 0, [], pos s z, 160))
    by_cases c : z = []
    · rw [if_pos c, if_neg (by rw [c, pos_nil]; omega)]
      rfl
    · have : 0 < z.length := List.length_pos_iff.2 c
      rw [if_neg c, if_pos (by unfold pos; omega)]
theorem headGo_skip {s : ByteArray} : ∀ (m n i : Nat), (∀ j, i ≤ j → j < i + m → (j : Int) < s.size ∧ okAt s j = true) → headGo s (m + n) i = headGo s n (i + m)
  | 0, n, i, _ => by rw [Nat.zero_add, Nat.add_zero]
  | m + 1, n, i, h => by
    obtain ⟨h1, h2⟩ := h i (Nat.le_refl _) (by omega)
    rw [show m + 1 + n = (m + n) + 1 by omega, headGo, if_pos h1, if_pos h2, headGo_skip m n (i + 1) (fun j hj hj2 => h j (by omega) (by omega))]
    congr 1
    omega
theorem headGo_all {s : ByteArray} (hs : 14 ≤ s.size) (h : ∀ j, j < 14 → okAt s j = true) : headGo s 14 0 = none := headGo_skip 14 0 0 (fun j _ hj => ⟨by omega, h j (by omega)⟩)
theorem headGo_at {s : ByteArray} {i : Nat} (hi : i < 14) (hs : i < s.size) (h : ∀ j, j < i → okAt s j = true) (hb : okAt s i = false) : headGo s 14 0 = some ((i : Int), 160) := by
  have := headGo_skip (s := s) i (14 - i) 0 (fun j _ hj => ⟨by omega, h j (by omega)⟩)
  rw [show i + (14 - i) = 14 by omega, Nat.zero_add] at this
  rw [this, show 14 - i = (13 - i) + 1 by omega, headGo, if_pos (by omega), hb]
  rfl
def okL (b : List Int) (i : Nat) : Bool := match i with
  | 0 => rd b 0 == 77
  | 1 => rd b 1 == 84
  | 2 => rd b 2 == 104
  | 3 => rd b 3 == 100
  | 4 => rd b 4 == 0
  | 5 => rd b 5 == 0
  | 6 => rd b 6 == 0
  | 7 => rd b 7 == 6
  | 8 => rd b 8 == 0
  | 9 => decide (rd b 9 ≤ 1)
  | 10 => rd b 10 == 0
  | 11 => okN (rd b 11) (rd b 9)
  | 12 => decide (rd b 12 < 128)
  | _ => decide (rd b 13 > 0) || decide (rd b 12 > 0)
theorem okAt_bytes {s : ByteArray} {b : List Int} (h : bytesOf s = b) (i : Nat) : okAt s i = okL b i := by
  have e : ∀ j : Int, bt s j = rd b j := fun j => by rw [← h, rd_bytesOf]
  unfold okAt okL
  split <;> simp only [e]
def HeadOk (f d : Int) (n : Nat) : Prop := (f = 0 ∨ f = 1) ∧ 1 ≤ d ∧ d ≤ 32767 ∧ 1 ≤ n ∧ n ≤ 16 ∧ (f = 0 → n = 1)
theorem rd_headB (f d : Int) (n : Nat) (t : List Int) : rd (headB f d n ++ t) 8 = f / 256 % 256 ∧ rd (headB f d n ++ t) 9 = f % 256 ∧ rd (headB f d n ++ t) 10 = (n : Int) / 256 % 256 ∧ rd (headB f d n ++ t) 11 = (n : Int) % 256 ∧ rd (headB f d n ++ t) 12 = d / 256 % 256 ∧ rd (headB f d n ++ t) 13 = d % 256 := ⟨rfl, rfl, rfl, rfl, rfl, rfl⟩
theorem okL_head {f d : Int} {n : Nat} (h : HeadOk f d n) (t : List Int) (j : Nat) (hj : j < 14) : okL (headB f d n ++ t) j = true := by
  obtain ⟨h1, h2, h3, h4, h5, h6⟩ := h
  obtain ⟨e8, e9, e10, e11, e12, e13⟩ := rd_headB f d n t
  rcases (show j = 0 ∨ j = 1 ∨ j = 2 ∨ j = 3 ∨ j = 4 ∨ j = 5 ∨ j = 6 ∨ j = 7 ∨ j = 8 ∨ j = 9 ∨ j = 10 ∨ j = 11 ∨ j = 12 ∨ j = 13 by omega) with rfl | rfl | rfl | rfl | rfl | rfl | rfl | rfl | rfl | rfl | rfl | rfl | rfl | rfl
  · rfl
  · rfl
  · rfl
  · rfl
  · rfl
  · rfl
  · rfl
  · rfl
  · show (rd (headB f d n ++ t) 8 == 0) = true
    rw [e8]; exact beq_iff_eq.mpr (by omega)
  · show decide (rd (headB f d n ++ t) 9 ≤ 1) = true
    rw [e9]; exact decide_eq_true (by omega)
  · show (rd (headB f d n ++ t) 10 == 0) = true
    rw [e10]; exact beq_iff_eq.mpr (by omega)
  · show okN (rd (headB f d n ++ t) 11) (rd (headB f d n ++ t) 9) = true
    rw [e11, e9]
    unfold okN
    have a1 : (n : Int) % 256 = n := by omega
    have a2 : f % 256 = f := by omega
    rw [a1, a2]
    by_cases c : (n : Int) = 1
    · simp [c]
    · have hf : f = 1 := h1.resolve_left (fun h1 => by have := h6 h1; omega)
      rw [decide_eq_true hf, decide_eq_true (show (n : Int) > 0 by omega), decide_eq_true (show (n : Int) ≤ 16 by omega)]
      simp
  · show decide (rd (headB f d n ++ t) 12 < 128) = true
    rw [e12]; exact decide_eq_true (by omega)
  · show (decide (rd (headB f d n ++ t) 13 > 0) || decide (rd (headB f d n ++ t) 12 > 0)) = true
    rw [e13, e12]
    by_cases c : d % 256 > 0
    · rw [decide_eq_true c]; rfl
    · rw [decide_eq_true (show d / 256 % 256 > 0 by omega), Bool.or_true]
theorem parse_right {s : ByteArray} (hs : s.size ≤ 100000) {f d : Int} {n : Nat} (h : HeadOk f d n) {r : List Int} (hb : bytesOf s = headB f d n ++ r) {o : Except (Nat × Int) (List (List Msg) × List Int)} (ho : PrR n r o) :
    Ev (fun k => smf_Parse.f k s) (match o with
      | .error (m, e) => (0, 0, [], (s.size : Int) - (m : Int), e)
      | .ok (ts, z) => if z = [] then (f, d, ts, 0, 0) else (0, 0, [], pos s z, 160)) := by
  have h' := h
  obtain ⟨h1, h2, h3, h4, h5, h6⟩ := h'
  obtain ⟨e8, e9, e10, e11, e12, e13⟩ := rd_headB f d n r
  have e : ∀ j : Int, bt s j = rd (headB f d n ++ r) j := fun j => by rw [← hb, rd_bytesOf]
  have hsz : 14 ≤ s.size := by
    have := congrArg List.length hb
    rw [bytesOf_length, List.length_append, headB_len] at this
    omega
  have hh : headGo s 14 0 = none := headGo_all hsz (fun j hj => by rw [okAt_bytes hb]; exact okL_head h r j hj)
  have hn : (bt s 11).toNat = n := by rw [e, e11]; omega
  have := parse_ev hs hh hb (headB_len _ _ _) (by rw [hn]; exact ho)
  cases o with
  | error x => exact this
  | ok x =>
    obtain ⟨ts, z⟩ := x
    have hd : orB (bt s 12) (bt s 13) = d := by rw [orB_eq (by rw [e, e12]; omega) (by rw [e, e12]; omega) (by rw [e, e13]; omega) (by rw [e, e13]; omega), e, e, e12, e13]; omega
    have hf : bt s 9 = f := by rw [e, e9]; omega
    refine Ev.ok this ?_
    unfold parseAns
    rw [hd, hf]
theorem ch_trk {l : List Msg} (hr : Rights l) (he : endsB l = true) (hl : (enc 0 l).length < 4294967296) (rest : List Int) : ChR (trkB l ++ rest) (.ok (l, rest)) := by
  have h : trkB l ++ rest = trkL ++ (four (enc 0 l).length ++ (enc 0 l ++ rest)) := by unfold trkB; simp only [List.append_assoc]
  rw [h]
  exact .track rfl (by rw [val4_four (by omega) (by omega)]) (dec_enc0 hr (.inl rfl)) he
theorem pr_trks : ∀ {ts : List (List Msg)}, (∀ l ∈ ts, Rights l ∧ endsB l = true ∧ (enc 0 l).length < 4294967296) → ∀ rest, PrR ts.length (trksB ts ++ rest) (.ok (ts, rest))
  | [], _, rest => .done rest
  | l :: r, h, rest => by
    obtain ⟨h1, h2, h3⟩ := h l (by simp)
    rw [trksB, List.append_assoc]
    exact .take (ch_trk h1 h2 h3 _) (endsB_ne h2) (pr_trks (fun x hx => h x (by simp [hx])) rest)
end Go.Proofs.Ytdmnknhlibaaoaa.Z
namespace Go.Proofs.Ytdmnknhlibaaoaa.M
open Go.RowKit Go.Proofs.YtdmnknhlibaaoaaW.PrintWords Go.Proofs.YtdmnknhlibaaoaaW.PrintLast Go.Proofs.YtdmnknhlibaaoaaW.PrintMore
attribute [local go_sem] max2_int min2_int max_two min_two max_three min_three max_four min_four
set_option linter.unusedVariables false
set_option linter.unusedSimpArgs false
def partitalaw16_examples.f (k : Nat)  : Option (Bool) := (partitalaw16_End.f 0).bind fun bt101 => ((some (([(([(⟨bt101.1, bt101.2.1, bt101.2.2.1, bt101.2.2.2.1, bt101.2.2.2.2.1, bt101.2.2.2.2.2⟩ : S28)] : List (S28)))] : List (List (S28))) : List (List (S28)))).bind fun y110 => ((smf_Print.f k 0 96 y110).bind fun bt114 => ((smf_Parse.f k bt114.1).bind fun bt116 => (if 0 ≤ (mn (bt114.1.size : Int) 20) then (if (mn (bt114.1.size : Int) 20) ≤ (bt114.1.size : Int) then ((smf_Parse.f k (bt114.1.extract 0 ((mn (bt114.1.size : Int) 20) : Int).toNat)).bind fun bt124 => ((smf_Check.f k 0 96 ([] : List (List (S28)))).bind fun bt132 => ((partitalaw16_End.f 0).bind fun bt134 => ((smf_Check.f k 1 96 (([(([(⟨bt134.1, bt134.2.1, bt134.2.2.1, bt134.2.2.2.1, bt134.2.2.2.2.1, bt134.2.2.2.2.2⟩ : S28)] : List (S28))), []] : List (List (S28))))).bind fun bt146 => ((partitalaw16_End.f 0).bind fun bt148 => ((smf_Check.f k 0 96 (([(([(⟨0, 3, 0, 0, 0, (⟨#[]⟩ : ByteArray)⟩ : S28), (⟨bt148.1, bt148.2.1, bt148.2.2.1, bt148.2.2.2.1, bt148.2.2.2.2.1, bt148.2.2.2.2.2⟩ : S28)] : List (S28)))] : List (List (S28))))).bind fun bt160 => ((smf_Parse.f k (⟨#[77, 84, 104, 120]⟩ : ByteArray)).bind fun bt162 => (if bt114.2 = 0 then (if bt114.1.toList = ([77, 84, 104, 100, 0, 0, 0, 6, 0, 0, 0, 1, 0, 96, 77, 84, 114, 107, 0, 0, 0, 4, 0, 255, 47, 0] : List UInt8) then (if bt116.2.2.2.2 = 0 then (if bt116.2.2.2.1 = 0 then ((smf_Same.f k 0 96 y110 bt116.1 bt116.2.1 bt116.2.2.1).bind fun t170 => (if t170 = true then (if bt124.2.2.2.1 = 20 then (if bt124.2.2.2.2 = 152 then (if bt132.2 = 160 then (if bt146.1 = 1 then (if bt146.2 = 160 then (if bt160.1 = 0 then (if bt160.2 = 151 then (if bt162.2.2.2.1 = 3 then (some (bt162.2.2.2.2 == 160)) else (none)) else (none)) else (none)) else (none)) else (none)) else (none)) else (none)) else (none)) else (none))) else (none)) else (none)) else (none)) else (none))))))))) else (none)) else (none)))))
theorem partitalaw16_examples.mono : ∀ k, LeO (partitalaw16_examples.f k ) (partitalaw16_examples.f (k + 1) ) := by
  intro  k
  unfold partitalaw16_examples.f
  repeat' first
      | (with_reducible exact smf_Check.mono _ _ _ _)
      | (with_reducible exact smf_Parse.mono _ _)
      | (with_reducible exact smf_Print.mono _ _ _ _)
      | (with_reducible exact smf_Same.mono _ _ _ _ _ _ _)
      | (with_reducible exact LeO.refl _)
      | (with_reducible exact LeO.none _)
      | (with_reducible refine LeO.ite ?_ ?_)
      | (with_reducible refine LeO.bind ?_ (fun _ => ?_))
      | exact smf_Check.mono _ _ _ _
      | exact smf_Parse.mono _ _
      | exact smf_Print.mono _ _ _ _
      | exact smf_Same.mono _ _ _ _ _ _ _
      | exact LeO.none _
      | refine LeO.ite ?_ ?_
      | refine LeO.bind ?_ (fun _ => ?_)
set_option maxHeartbeats 8000000 in
set_option maxRecDepth 100000 in
theorem partitalaw16_examples.calls (k : Nat)  (r : Bool) (w : World) (h : partitalaw16_examples.f k  = some r) :
    Calls Try.prog 11 #[] w fun e w' => e = .returned (.bool r) ∧ Below w.heap.size w w' := by
  have hu24 := Try.underlying24
  have hu28 := Try.underlying28
  have HB := Aside0.mk (Below.refl w.heap.size w)
  have H := h
  unfold partitalaw16_examples.f at H
  clear h
  replace H := Option.bind_eq_some_iff.mp H
  obtain ⟨⟨t101, t102, t103, t104, t105, t106⟩, A10, H⟩ := H
  try dsimp -simprocs only at H
  have A1 := Aside0.mk A10
  clear A10
  obtain ⟨y107, hy107⟩ : ∃ y_ : List (S28), y_ = (([(⟨t101, t102, t103, t104, t105, t106⟩ : S28)] : List (S28))) := ⟨_, rfl⟩
  replace H : ((some (([y107] : List (List (S28))) : List (List (S28)))).bind fun y110 => ((smf_Print.f k 0 96 y110).bind fun bt114 => ((smf_Parse.f k bt114.1).bind fun bt116 => (if 0 ≤ (mn (bt114.1.size : Int) 20) then (if (mn (bt114.1.size : Int) 20) ≤ (bt114.1.size : Int) then ((smf_Parse.f k (bt114.1.extract 0 ((mn (bt114.1.size : Int) 20) : Int).toNat)).bind fun bt124 => ((smf_Check.f k 0 96 ([] : List (List (S28)))).bind fun bt132 => ((partitalaw16_End.f 0).bind fun bt134 => ((smf_Check.f k 1 96 (([(([(⟨bt134.1, bt134.2.1, bt134.2.2.1, bt134.2.2.2.1, bt134.2.2.2.2.1, bt134.2.2.2.2.2⟩ : S28)] : List (S28))), []] : List (List (S28))))).bind fun bt146 => ((partitalaw16_End.f 0).bind fun bt148 => ((smf_Check.f k 0 96 (([(([(⟨0, 3, 0, 0, 0, (⟨#[]⟩ : ByteArray)⟩ : S28), (⟨bt148.1, bt148.2.1, bt148.2.2.1, bt148.2.2.2.1, bt148.2.2.2.2.1, bt148.2.2.2.2.2⟩ : S28)] : List (S28)))] : List (List (S28))))).bind fun bt160 => ((smf_Parse.f k (⟨#[77, 84, 104, 120]⟩ : ByteArray)).bind fun bt162 => (if bt114.2 = 0 then (if bt114.1.toList = ([77, 84, 104, 100, 0, 0, 0, 6, 0, 0, 0, 1, 0, 96, 77, 84, 114, 107, 0, 0, 0, 4, 0, 255, 47, 0] : List UInt8) then (if bt116.2.2.2.2 = 0 then (if bt116.2.2.2.1 = 0 then ((smf_Same.f k 0 96 y110 bt116.1 bt116.2.1 bt116.2.2.1).bind fun t170 => (if t170 = true then (if bt124.2.2.2.1 = 20 then (if bt124.2.2.2.2 = 152 then (if bt132.2 = 160 then (if bt146.1 = 1 then (if bt146.2 = 160 then (if bt160.1 = 0 then (if bt160.2 = 151 then (if bt162.2.2.2.1 = 3 then (some (bt162.2.2.2.2 == 160)) else (none)) else (none)) else (none)) else (none)) else (none)) else (none)) else (none)) else (none)) else (none))) else (none)) else (none)) else (none)) else (none))))))))) else (none)) else (none))))) = some r := by first | (rw [hy107]; with_reducible exact H) | (have H2_ := (Option.bind_some _ _).symm.trans H; rw [hy107]; with_reducible exact H2_) | (have H2_ := (Option.bind_some _ _).symm.trans H; with_reducible exact H2_) | with_reducible exact H | (rw [hy107]; exact H) | exact H
  have Ny107 := Aside0.mk hy107
  clear hy107
  obtain ⟨y110, hy110⟩ : ∃ y_ : List (List (S28)), y_ = (([y107] : List (List (S28)))) := ⟨_, rfl⟩
  replace H : ((smf_Print.f k 0 96 y110).bind fun bt114 => ((smf_Parse.f k bt114.1).bind fun bt116 => (if 0 ≤ (mn (bt114.1.size : Int) 20) then (if (mn (bt114.1.size : Int) 20) ≤ (bt114.1.size : Int) then ((smf_Parse.f k (bt114.1.extract 0 ((mn (bt114.1.size : Int) 20) : Int).toNat)).bind fun bt124 => ((smf_Check.f k 0 96 ([] : List (List (S28)))).bind fun bt132 => ((partitalaw16_End.f 0).bind fun bt134 => ((smf_Check.f k 1 96 (([(([(⟨bt134.1, bt134.2.1, bt134.2.2.1, bt134.2.2.2.1, bt134.2.2.2.2.1, bt134.2.2.2.2.2⟩ : S28)] : List (S28))), []] : List (List (S28))))).bind fun bt146 => ((partitalaw16_End.f 0).bind fun bt148 => ((smf_Check.f k 0 96 (([(([(⟨0, 3, 0, 0, 0, (⟨#[]⟩ : ByteArray)⟩ : S28), (⟨bt148.1, bt148.2.1, bt148.2.2.1, bt148.2.2.2.1, bt148.2.2.2.2.1, bt148.2.2.2.2.2⟩ : S28)] : List (S28)))] : List (List (S28))))).bind fun bt160 => ((smf_Parse.f k (⟨#[77, 84, 104, 120]⟩ : ByteArray)).bind fun bt162 => (if bt114.2 = 0 then (if bt114.1.toList = ([77, 84, 104, 100, 0, 0, 0, 6, 0, 0, 0, 1, 0, 96, 77, 84, 114, 107, 0, 0, 0, 4, 0, 255, 47, 0] : List UInt8) then (if bt116.2.2.2.2 = 0 then (if bt116.2.2.2.1 = 0 then ((smf_Same.f k 0 96 y110 bt116.1 bt116.2.1 bt116.2.2.1).bind fun t170 => (if t170 = true then (if bt124.2.2.2.1 = 20 then (if bt124.2.2.2.2 = 152 then (if bt132.2 = 160 then (if bt146.1 = 1 then (if bt146.2 = 160 then (if bt160.1 = 0 then (if bt160.2 = 151 then (if bt162.2.2.2.1 = 3 then (some (bt162.2.2.2.2 == 160)) else (none)) else (none)) else (none)) else (none)) else (none)) else (none)) else (none)) else (none)) else (none))) else (none)) else (none)) else (none)) else (none))))))))) else (none)) else (none)))) = some r := by first | (rw [hy110]; with_reducible exact H) | (have H2_ := (Option.bind_some _ _).symm.trans H; rw [hy110]; with_reducible exact H2_) | (have H2_ := (Option.bind_some _ _).symm.trans H; with_reducible exact H2_) | with_reducible exact H | (rw [hy110]; exact H) | exact H
  have Ny110 := Aside0.mk hy110
  clear hy110
  replace H := Option.bind_eq_some_iff.mp H
  obtain ⟨⟨t114, t115⟩, A20, H⟩ := H
  try dsimp -simprocs only at H
  have A2 := Aside0.mk A20
  clear A20
  replace H := Option.bind_eq_some_iff.mp H
  obtain ⟨⟨t116, t117, t118, t121, t122⟩, A30, H⟩ := H
  try dsimp -simprocs only at H
  have A3 := Aside0.mk A30
  clear A30
  obtain ⟨ji4, hji4⟩ : ∃ j_ : Int, (mn (t114.size : Int) 20) = j_ := ⟨_, rfl⟩
  replace H : (if 0 ≤ (ji4) then (if (ji4) ≤ (t114.size : Int) then ((smf_Parse.f k (t114.extract 0 ((ji4) : Int).toNat)).bind fun bt124 => ((smf_Check.f k 0 96 ([] : List (List (S28)))).bind fun bt132 => ((partitalaw16_End.f 0).bind fun bt134 => ((smf_Check.f k 1 96 (([(([(⟨bt134.1, bt134.2.1, bt134.2.2.1, bt134.2.2.2.1, bt134.2.2.2.2.1, bt134.2.2.2.2.2⟩ : S28)] : List (S28))), []] : List (List (S28))))).bind fun bt146 => ((partitalaw16_End.f 0).bind fun bt148 => ((smf_Check.f k 0 96 (([(([(⟨0, 3, 0, 0, 0, (⟨#[]⟩ : ByteArray)⟩ : S28), (⟨bt148.1, bt148.2.1, bt148.2.2.1, bt148.2.2.2.1, bt148.2.2.2.2.1, bt148.2.2.2.2.2⟩ : S28)] : List (S28)))] : List (List (S28))))).bind fun bt160 => ((smf_Parse.f k (⟨#[77, 84, 104, 120]⟩ : ByteArray)).bind fun bt162 => (if t115 = 0 then (if t114.toList = ([77, 84, 104, 100, 0, 0, 0, 6, 0, 0, 0, 1, 0, 96, 77, 84, 114, 107, 0, 0, 0, 4, 0, 255, 47, 0] : List UInt8) then (if t122 = 0 then (if t121 = 0 then ((smf_Same.f k 0 96 y110 t116 t117 t118).bind fun t170 => (if t170 = true then (if bt124.2.2.2.1 = 20 then (if bt124.2.2.2.2 = 152 then (if bt132.2 = 160 then (if bt146.1 = 1 then (if bt146.2 = 160 then (if bt160.1 = 0 then (if bt160.2 = 151 then (if bt162.2.2.2.1 = 3 then (some (bt162.2.2.2.2 == 160)) else (none)) else (none)) else (none)) else (none)) else (none)) else (none)) else (none)) else (none)) else (none))) else (none)) else (none)) else (none)) else (none))))))))) else (none)) else (none)) = some r := by first | (rw [hji4] at H; exact H) | (simp only [hji4] at H ⊢; exact H)
  (try rw [hji4] at A1)
  (try rw [hji4] at A2)
  (try rw [hji4] at A3)
  (try (have hji4h : ji4 ≤ 20 := by (rw [← hji4]; unfold mn; (repeat' split) <;> omega)))
  (try (have hji4g : ji4 ≤ 64 := by omega))
  (try (have hji4l : 0 ≤ ji4 := by (rw [← hji4]; unfold mn; (repeat' split) <;> omega)))
  (try (have hji4m : 0 ≤ ji4 := by omega))
  have hji4_ : (if 20 < (t114.size : Int) then 20 else (t114.size : Int)) = ji4 := hji4
  by_cases c5 : 0 ≤ (ji4)
  rotate_left
  · rw [if_neg c5] at H
    exact absurd H (by simp)
  rw [if_pos c5] at H
  have c5b0 := eq_true c5
  have c5b1 : decide (0 ≤ (ji4)) = true := decide_eq_true c5
  clear c5
  by_cases c6 : (ji4) ≤ (t114.size : Int)
  rotate_left
  · rw [if_neg c6] at H
    exact absurd H (by simp)
  rw [if_pos c6] at H
  have c6b0 := eq_true c6
  have c6b1 : decide ((ji4) ≤ (t114.size : Int)) = true := decide_eq_true c6
  clear c6
  replace H := Option.bind_eq_some_iff.mp H
  obtain ⟨⟨t124, t125, t126, t129, t130⟩, A70, H⟩ := H
  try dsimp -simprocs only at H
  have A7 := Aside0.mk A70
  clear A70
  replace H := Option.bind_eq_some_iff.mp H
  obtain ⟨⟨t132, t133⟩, A80, H⟩ := H
  try dsimp -simprocs only at H
  have A8 := Aside0.mk A80
  clear A80
  replace H := Option.bind_eq_some_iff.mp H
  obtain ⟨⟨t134, t135, t136, t137, t138, t139⟩, A90, H⟩ := H
  try dsimp -simprocs only at H
  have A9 := Aside0.mk A90
  clear A90
  obtain ⟨y140, hy140⟩ : ∃ y_ : List (S28), y_ = (([(⟨t134, t135, t136, t137, t138, t139⟩ : S28)] : List (S28))) := ⟨_, rfl⟩
  replace H : ((smf_Check.f k 1 96 (([y140, []] : List (List (S28))))).bind fun bt146 => ((partitalaw16_End.f 0).bind fun bt148 => ((smf_Check.f k 0 96 (([(([(⟨0, 3, 0, 0, 0, (⟨#[]⟩ : ByteArray)⟩ : S28), (⟨bt148.1, bt148.2.1, bt148.2.2.1, bt148.2.2.2.1, bt148.2.2.2.2.1, bt148.2.2.2.2.2⟩ : S28)] : List (S28)))] : List (List (S28))))).bind fun bt160 => ((smf_Parse.f k (⟨#[77, 84, 104, 120]⟩ : ByteArray)).bind fun bt162 => (if t115 = 0 then (if t114.toList = ([77, 84, 104, 100, 0, 0, 0, 6, 0, 0, 0, 1, 0, 96, 77, 84, 114, 107, 0, 0, 0, 4, 0, 255, 47, 0] : List UInt8) then (if t122 = 0 then (if t121 = 0 then ((smf_Same.f k 0 96 y110 t116 t117 t118).bind fun t170 => (if t170 = true then (if t129 = 20 then (if t130 = 152 then (if t133 = 160 then (if bt146.1 = 1 then (if bt146.2 = 160 then (if bt160.1 = 0 then (if bt160.2 = 151 then (if bt162.2.2.2.1 = 3 then (some (bt162.2.2.2.2 == 160)) else (none)) else (none)) else (none)) else (none)) else (none)) else (none)) else (none)) else (none)) else (none))) else (none)) else (none)) else (none)) else (none)))))) = some r := by first | (rw [hy140]; with_reducible exact H) | (have H2_ := (Option.bind_some _ _).symm.trans H; rw [hy140]; with_reducible exact H2_) | (have H2_ := (Option.bind_some _ _).symm.trans H; with_reducible exact H2_) | with_reducible exact H | (rw [hy140]; exact H) | exact H
  have Ny140 := Aside0.mk hy140
  clear hy140
  obtain ⟨y143, hy143⟩ : ∃ y_ : List (List (S28)), y_ = (([y140, []] : List (List (S28)))) := ⟨_, rfl⟩
  replace H : ((smf_Check.f k 1 96 y143).bind fun bt146 => ((partitalaw16_End.f 0).bind fun bt148 => ((smf_Check.f k 0 96 (([(([(⟨0, 3, 0, 0, 0, (⟨#[]⟩ : ByteArray)⟩ : S28), (⟨bt148.1, bt148.2.1, bt148.2.2.1, bt148.2.2.2.1, bt148.2.2.2.2.1, bt148.2.2.2.2.2⟩ : S28)] : List (S28)))] : List (List (S28))))).bind fun bt160 => ((smf_Parse.f k (⟨#[77, 84, 104, 120]⟩ : ByteArray)).bind fun bt162 => (if t115 = 0 then (if t114.toList = ([77, 84, 104, 100, 0, 0, 0, 6, 0, 0, 0, 1, 0, 96, 77, 84, 114, 107, 0, 0, 0, 4, 0, 255, 47, 0] : List UInt8) then (if t122 = 0 then (if t121 = 0 then ((smf_Same.f k 0 96 y110 t116 t117 t118).bind fun t170 => (if t170 = true then (if t129 = 20 then (if t130 = 152 then (if t133 = 160 then (if bt146.1 = 1 then (if bt146.2 = 160 then (if bt160.1 = 0 then (if bt160.2 = 151 then (if bt162.2.2.2.1 = 3 then (some (bt162.2.2.2.2 == 160)) else (none)) else (none)) else (none)) else (none)) else (none)) else (none)) else (none)) else (none)) else (none))) else (none)) else (none)) else (none)) else (none)))))) = some r := by first | (rw [hy143]; with_reducible exact H) | (have H2_ := (Option.bind_some _ _).symm.trans H; rw [hy143]; with_reducible exact H2_) | (have H2_ := (Option.bind_some _ _).symm.trans H; with_reducible exact H2_) | with_reducible exact H | (rw [hy143]; exact H) | exact H
  have Ny143 := Aside0.mk hy143
  clear hy143
  replace H := Option.bind_eq_some_iff.mp H
  obtain ⟨⟨t146, t147⟩, A100, H⟩ := H
  try dsimp -simprocs only at H
  have A10 := Aside0.mk A100
  clear A100
  replace H := Option.bind_eq_some_iff.mp H
  obtain ⟨⟨t148, t149, t150, t151, t152, t153⟩, A110, H⟩ := H
  try dsimp -simprocs only at H
  have A11 := Aside0.mk A110
  clear A110
  obtain ⟨y154, hy154⟩ : ∃ y_ : List (S28), y_ = (([(⟨0, 3, 0, 0, 0, (⟨#[]⟩ : ByteArray)⟩ : S28), (⟨t148, t149, t150, t151, t152, t153⟩ : S28)] : List (S28))) := ⟨_, rfl⟩
  replace H : ((smf_Check.f k 0 96 (([y154] : List (List (S28))))).bind fun bt160 => ((smf_Parse.f k (⟨#[77, 84, 104, 120]⟩ : ByteArray)).bind fun bt162 => (if t115 = 0 then (if t114.toList = ([77, 84, 104, 100, 0, 0, 0, 6, 0, 0, 0, 1, 0, 96, 77, 84, 114, 107, 0, 0, 0, 4, 0, 255, 47, 0] : List UInt8) then (if t122 = 0 then (if t121 = 0 then ((smf_Same.f k 0 96 y110 t116 t117 t118).bind fun t170 => (if t170 = true then (if t129 = 20 then (if t130 = 152 then (if t133 = 160 then (if t146 = 1 then (if t147 = 160 then (if bt160.1 = 0 then (if bt160.2 = 151 then (if bt162.2.2.2.1 = 3 then (some (bt162.2.2.2.2 == 160)) else (none)) else (none)) else (none)) else (none)) else (none)) else (none)) else (none)) else (none)) else (none))) else (none)) else (none)) else (none)) else (none)))) = some r := by first | (rw [hy154]; with_reducible exact H) | (have H2_ := (Option.bind_some _ _).symm.trans H; rw [hy154]; with_reducible exact H2_) | (have H2_ := (Option.bind_some _ _).symm.trans H; with_reducible exact H2_) | with_reducible exact H | (rw [hy154]; exact H) | exact H
  have Ny154 := Aside0.mk hy154
  clear hy154
  obtain ⟨y157, hy157⟩ : ∃ y_ : List (List (S28)), y_ = (([y154] : List (List (S28)))) := ⟨_, rfl⟩
  replace H : ((smf_Check.f k 0 96 y157).bind fun bt160 => ((smf_Parse.f k (⟨#[77, 84, 104, 120]⟩ : ByteArray)).bind fun bt162 => (if t115 = 0 then (if t114.toList = ([77, 84, 104, 100, 0, 0, 0, 6, 0, 0, 0, 1, 0, 96, 77, 84, 114, 107, 0, 0, 0, 4, 0, 255, 47, 0] : List UInt8) then (if t122 = 0 then (if t121 = 0 then ((smf_Same.f k 0 96 y110 t116 t117 t118).bind fun t170 => (if t170 = true then (if t129 = 20 then (if t130 = 152 then (if t133 = 160 then (if t146 = 1 then (if t147 = 160 then (if bt160.1 = 0 then (if bt160.2 = 151 then (if bt162.2.2.2.1 = 3 then (some (bt162.2.2.2.2 == 160)) else (none)) else (none)) else (none)) else (none)) else (none)) else (none)) else (none)) else (none)) else (none))) else (none)) else (none)) else (none)) else (none)))) = some r := by first | (rw [hy157]; with_reducible exact H) | (have H2_ := (Option.bind_some _ _).symm.trans H; rw [hy157]; with_reducible exact H2_) | (have H2_ := (Option.bind_some _ _).symm.trans H; with_reducible exact H2_) | with_reducible exact H | (rw [hy157]; exact H) | exact H
  have Ny157 := Aside0.mk hy157
  clear hy157
  replace H := Option.bind_eq_some_iff.mp H
  obtain ⟨⟨t160, t161⟩, A120, H⟩ := H
  try dsimp -simprocs only at H
  have A12 := Aside0.mk A120
  clear A120
  replace H := Option.bind_eq_some_iff.mp H
  obtain ⟨⟨t162, t163, t164, t167, t168⟩, A130, H⟩ := H
  try dsimp -simprocs only at H
  have A13 := Aside0.mk A130
  clear A130
  by_cases c14 : t115 = 0
  rotate_left
  · rw [if_neg c14] at H
    exact absurd H (by simp)
  rw [if_pos c14] at H
  have c14b0 : (t115 == 0) = true := beq_iff_eq.mpr c14
  have c14b1 : (t115 != 0) = false := bne_eq_false_iff_eq.mpr c14
  clear c14
  by_cases c15 : t114.toList = ([77, 84, 104, 100, 0, 0, 0, 6, 0, 0, 0, 1, 0, 96, 77, 84, 114, 107, 0, 0, 0, 4, 0, 255, 47, 0] : List UInt8)
  rotate_left
  · rw [if_neg c15] at H
    exact absurd H (by simp)
  rw [if_pos c15] at H
  have c15b0 : (t114.toList == ([77, 84, 104, 100, 0, 0, 0, 6, 0, 0, 0, 1, 0, 96, 77, 84, 114, 107, 0, 0, 0, 4, 0, 255, 47, 0] : List UInt8)) = true := beq_iff_eq.mpr c15
  have c15b1 : (t114.toList != ([77, 84, 104, 100, 0, 0, 0, 6, 0, 0, 0, 1, 0, 96, 77, 84, 114, 107, 0, 0, 0, 4, 0, 255, 47, 0] : List UInt8)) = false := bne_eq_false_iff_eq.mpr c15
  clear c15
  by_cases c16 : t122 = 0
  rotate_left
  · rw [if_neg c16] at H
    exact absurd H (by simp)
  rw [if_pos c16] at H
  have c16b0 : (t122 == 0) = true := beq_iff_eq.mpr c16
  have c16b1 : (t122 != 0) = false := bne_eq_false_iff_eq.mpr c16
  clear c16
  by_cases c17 : t121 = 0
  rotate_left
  · rw [if_neg c17] at H
    exact absurd H (by simp)
  rw [if_pos c17] at H
  have c17b0 : (t121 == 0) = true := beq_iff_eq.mpr c17
  have c17b1 : (t121 != 0) = false := bne_eq_false_iff_eq.mpr c17
  clear c17
  replace H := Option.bind_eq_some_iff.mp H
  obtain ⟨t170, A180, H⟩ := H
  try dsimp -simprocs only at H
  have A18 := Aside0.mk A180
  clear A180
  by_cases c19 : t170 = true
  rotate_left
  · replace c19 := Bool.eq_false_iff.mpr c19
    subst c19
    have H1 : (none) = some r := by rw [if_neg (show ¬ (false = true) by decide)] at H; exact H
    clear H
    have H := H1
    clear H1
    exact absurd H (by simp)
  subst c19
  have H1 : (if t129 = 20 then (if t130 = 152 then (if t133 = 160 then (if t146 = 1 then (if t147 = 160 then (if t160 = 0 then (if t161 = 151 then (if t167 = 3 then (some (t168 == 160)) else (none)) else (none)) else (none)) else (none)) else (none)) else (none)) else (none)) else (none)) = some r := by rw [if_pos rfl] at H; exact H
  clear H
  have H := H1
  clear H1
  by_cases c20 : t129 = 20
  rotate_left
  · rw [if_neg c20] at H
    exact absurd H (by simp)
  rw [if_pos c20] at H
  have c20b0 : (t129 == 20) = true := beq_iff_eq.mpr c20
  have c20b1 : (t129 != 20) = false := bne_eq_false_iff_eq.mpr c20
  clear c20
  by_cases c21 : t130 = 152
  rotate_left
  · rw [if_neg c21] at H
    exact absurd H (by simp)
  rw [if_pos c21] at H
  have c21b0 : (t130 == 152) = true := beq_iff_eq.mpr c21
  have c21b1 : (t130 != 152) = false := bne_eq_false_iff_eq.mpr c21
  clear c21
  by_cases c22 : t133 = 160
  rotate_left
  · rw [if_neg c22] at H
    exact absurd H (by simp)
  rw [if_pos c22] at H
  have c22b0 : (t133 == 160) = true := beq_iff_eq.mpr c22
  have c22b1 : (t133 != 160) = false := bne_eq_false_iff_eq.mpr c22
  clear c22
  by_cases c23 : t146 = 1
  rotate_left
  · rw [if_neg c23] at H
    exact absurd H (by simp)
  rw [if_pos c23] at H
  have c23b0 : (t146 == 1) = true := beq_iff_eq.mpr c23
  have c23b1 : (t146 != 1) = false := bne_eq_false_iff_eq.mpr c23
  clear c23
  by_cases c24 : t147 = 160
  rotate_left
  · rw [if_neg c24] at H
    exact absurd H (by simp)
  rw [if_pos c24] at H
  have c24b0 : (t147 == 160) = true := beq_iff_eq.mpr c24
  have c24b1 : (t147 != 160) = false := bne_eq_false_iff_eq.mpr c24
  clear c24
  by_cases c25 : t160 = 0
  rotate_left
  · rw [if_neg c25] at H
    exact absurd H (by simp)
  rw [if_pos c25] at H
  have c25b0 : (t160 == 0) = true := beq_iff_eq.mpr c25
  have c25b1 : (t160 != 0) = false := bne_eq_false_iff_eq.mpr c25
  clear c25
  by_cases c26 : t161 = 151
  rotate_left
  · rw [if_neg c26] at H
    exact absurd H (by simp)
  rw [if_pos c26] at H
  have c26b0 : (t161 == 151) = true := beq_iff_eq.mpr c26
  have c26b1 : (t161 != 151) = false := bne_eq_false_iff_eq.mpr c26
  clear c26
  by_cases c27 : t167 = 3
  rotate_left
  · rw [if_neg c27] at H
    exact absurd H (by simp)
  rw [if_pos c27] at H
  have c27b0 : (t167 == 3) = true := beq_iff_eq.mpr c27
  have c27b1 : (t167 != 3) = false := bne_eq_false_iff_eq.mpr c27
  clear c27
  obtain rfl := Option.some.inj H
  go_enter Try.func11, Try.ntmps11
  go_wp2_with (first | ((with_reducible refine gate_callee (f := 13) rfl ?_); refine goesL_ (some 19) rfl rfl Try.func13 (by kernel_rfl) rfl #[.int .i64 0] rfl qq0 ?_; (with_reducible refine (partitalaw16_End.calls 0 t101 t102 t103 t104 t105 t106 _ A1.out).mono ?_); rintro e w28 ⟨rfl, hb⟩; refine ⟨_, rfl, ?_⟩; replace HB := Aside0.mk (below_step (qB HB.out) hb); (try clear hb); (try clear hb2); (try clear hk); (try clear hi)) | ((with_reducible refine gate_dst (N := 20) rfl ?_); refine Kd.R_lit k28 _ 28 ?hg (N := 20) ?hd (xs := ([(⟨t101, t102, t103, t104, t105, t106⟩ : S28)] : List (S28))) (inner := [.int .i64 t101, .int .i64 t102, .int .i64 t103, .int .i64 t104, .int .i64 t105, .string t106]) (ok := fun _ => True) (okp := fun _ => True) ?hr ?hp (fun _ hk => hk) trivial (Below.refl _ _) (Nat.le_refl _) (by simp) ?_; (case hd => rfl); (case hg => rfl); (case hr => exact qq6); (case hp => exact (Reps.c6 (show Kd.M k28 _ _ _ (⟨t101, t102, t103, t104, t105, t106⟩ : S28) [.int .i64 t101, .int .i64 t102, .int .i64 t103, .int .i64 t104, .int .i64 t105, .string t106] from (k28_mkM _ _ _ (⟨t101, t102, t103, t104, t105, t106⟩ : S28) )) (Reps.none _ _))); intro v108 w29 ho30 hb hg_ hnew_; clear hg_ hnew_; (first | rw [← Ny107.out] at ho30 | (simp only [Int.reduceToNat] at ho30; rw [← Ny107.out] at ho30)); have HO109 := Aside0.mk (Kd.R_lower ho30 (below_size (qB HB.out))); replace HB := Aside0.mk (below_step (qB HB.out) hb); clear hb ho30; obtain ⟨Ao31, co31, eo31⟩ := Kd.R_slice HO109.out; subst eo31) | ((with_reducible refine gate_dst (N := 21) rfl ?_); refine Kd.N_lit (Kd.slice 28 k28) _ 30 ?hg (N' := 21) ?hd (xs := ([y107] : List (List (S28)))) (inner := [.slice Ao31 y107.length co31]) (ok := (fun _ => True)) (okp := (fun _ => True)) ?hr ?hp (fun _ hk => hk) ((show ∀ k_, w29.heap.size ≤ k_ → (fun _ => True) k_ from fun k_ hk => trivial) _ (Nat.le_refl _)) (Below.refl _ _) (Nat.le_refl _) (by simp) ?_; (case hd => rfl); (case hg => rfl); (case hr => exact qq6); (case hp => exact (Reps.one (show Kd.FK (Kd.slice 28 k28) _ _ y107 [.slice Ao31 y107.length co31] from (Kd.FK_slice_mk (Kd.R_reads' (Kd.R_mono (ok' := (fun _ => True)) (HO109.out) (fun k_ hk => trivial))).2.1 (Kd.R_F (Kd.R_mono (ok' := (fun _ => True)) (HO109.out) (fun k_ hk => trivial))))) (Reps.none _ _))); intro v111 w32 ho33 hb hg_ hnew_; clear hg_ hnew_; (first | rw [← Ny110.out] at ho33 | (simp only [Int.reduceToNat] at ho33; rw [← Ny110.out] at ho33)); have HO112 := Aside0.mk (Kd.N_lower ho33 (below_size (qB HB.out))); replace HB := Aside0.mk (below_step (qB HB.out) hb); clear HO109; clear hb ho33; obtain ⟨Ao34, co34, eo34⟩ := Kd.N_slice HO112.out; subst eo34) | ((with_reducible refine gate_dst (N := 1) rfl ?_); refine box_event ?hg (N := 1) ?hd (cs := #[.int .i64 0, .int .i64 0, .slice none 0 0]) (t := 24) ?hr ?_; (case hd => rfl); (case hg => rfl); (case hr => exact qq6); intro gb113 hg w35 hbox hb; replace HO112 := Aside0.mk (Kd.N_below (Kd.N_elderB (qN HO112.out) gb113 (Nat.le_of_eq hg.symm)) hb); have BK113 := Aside0.mk (hbox); have GW113 := Aside0.mk ((qq9 : w.heap.size ≤ gb113)); have GE113 := Aside0.mk ((qq9 : w.heap.size ≤ gb113)); replace HB := Aside0.mk (below_step (qB HB.out) hb); clear hb hbox hg; obtain ⟨hcz36_0, hcz36_1, hcz36_2, hfz36_0, hfz36_1, hfz36_2⟩ := blk3 BK113.out) | ((with_reducible refine gate_callee (f := 15) rfl ?_); refine goesL_ (some 25) rfl rfl Try.func15 (by kernel_rfl) rfl #[.agg #[.int .i64 0, .int .i64 96, .slice Ao34 y110.length co34]] rfl qq0 ?_; (with_reducible refine (smf_Print.calls k 0 96 _ _ y110 t114 t115 _ ?side1 ?side2 A2.out).mono ?_); (case side1 => refine (Kd.N_reads' (e := 30) (base := w.heap.size) (ok := fun k_ => (True ∧ k_ ≠ gb113)) (n := y110.length) (c := co34) ?_).2.2; exact qq10); (case side2 => exact (Kd.N_reads' HO112.out).2.1); rintro e w37 ⟨rfl, hb⟩; refine ⟨_, rfl, ?_⟩; replace HO112 := Aside0.mk (Kd.N_below qq10 hb); replace BK113 := Aside0.mk (blk_below (g := gb113) (o := .cells #[.int .i64 0, .int .i64 96, .slice Ao34 y110.length co34] 24 (0, 0)) (by refine bq ?_; refine blk_put (cs := #[.int .i64 0, .int .i64 96, .slice none 0 0]) ?_ 2 _ rfl; refine bq ?_; refine blk_put (cs := #[.int .i64 0, .int .i64 0, .slice none 0 0]) ?_ 1 _ rfl; refine bq ?_; refine blk_put (cs := #[.int .i64 0, .int .i64 0, .slice none 0 0]) ?_ 0 _ rfl; exact bq BK113.out) hb); replace HB := Aside0.mk (below_step (qS1 GE113 HB.out) hb); (try clear hb); (try clear hb2); (try clear hk); (try clear hi)) | ((with_reducible refine gate_callee (f := 21) rfl ?_); refine goesL_ (some 30) rfl rfl Try.func21 (by kernel_rfl) rfl #[.string t114] rfl qq0 ?_; (with_reducible refine (smf_Parse.calls k t114 t116 t117 t118 t121 t122 _ A3.out).mono ?_); rintro e w38 ⟨v119, rfl, ho0, hb⟩; refine ⟨_, rfl, ?_⟩; have HO120 := Aside0.mk (Kd.N_lower (Kd.N_mono (ok' := fun k_ => some k_ ≠ (.slice Ao34 y110.length co34 : Value).ownBlock ∧ k_ ≠ gb113) (Kd.S_N (Kd.S_bound ho0)) (fun k_ hk_ => ⟨(Kd.fresh' (Kd.N_lt (qN HO112.out)) k_ hk_.2.1), (Kd.freshB (bq BK113.out) k_ hk_.2.1)⟩)) (below_size (qS1 GE113 HB.out))); replace HO112 := Aside0.mk (Kd.N_elder' (qN HO112.out) qqd hb); replace BK113 := Aside0.mk (blk_below (bq BK113.out) hb); replace HB := Aside0.mk (below_step (qS1 GE113 HB.out) hb); (try clear hb); (try clear hb2); (try clear hk); (try clear hi); (try clear ho0)) | ((with_reducible refine gate_dst (N := 4) rfl ?_); refine box_event ?hg (N := 4) ?hd (cs := #[.int .i64 0, .int .i64 0, .slice none 0 0]) (t := 24) ?hr ?_; (case hd => rfl); (case hg => rfl); (case hr => exact qq6); intro gb123 hg w39 hbox hb; replace HO112 := Aside0.mk (Kd.N_below (Kd.N_elderB (qN HO112.out) gb123 (Nat.le_of_eq hg.symm)) hb); replace HO120 := Aside0.mk (Kd.N_below (Kd.N_elderB (qN HO120.out) gb123 (Nat.le_of_eq hg.symm)) hb); have BK123 := Aside0.mk (hbox); have GW123 := Aside0.mk ((by rw [hg]; exact (below_size (qS1 GE113 HB.out)) : w.heap.size ≤ gb123)); have GE123 := Aside0.mk ((by rw [hg]; exact (below_size (qS1 GE113 HB.out)) : w.heap.size ≤ gb123)); replace HB := Aside0.mk (below_step (qS1 GE113 HB.out) hb); have NB113_123 := Aside0.mk ((qq1o : gb113 ≠ gb123)); have NB123_113 := Aside0.mk ((qq1q : gb123 ≠ gb113)); replace BK113 := Aside0.mk (blk_below (bq BK113.out) hb); clear hb hbox hg; have hnb40 := NB123_113.out; have hnc40 := NB113_123.out; obtain ⟨hcz41_0, hcz41_1, hcz41_2, hfz41_0, hfz41_1, hfz41_2⟩ := blk3 BK123.out; obtain ⟨Ao42, co42, eo42⟩ := Kd.N_slice HO120.out; subst eo42) | ((with_reducible refine gate_callee (f := 21) rfl ?_); refine goesL_ (some 40) rfl rfl Try.func21 (by kernel_rfl) rfl #[.string (t114.extract 0 ((ji4) : Int).toNat)] rfl (by (try simp only [List.map_toArray, List.map_cons, List.map_nil]); first | done | (simp only [hji4]; rfl) | rfl | (simp only [List.length_drop, List.length_take]; rfl)) ?_; (with_reducible refine (smf_Parse.calls k (t114.extract 0 ((ji4) : Int).toNat) t124 t125 t126 t129 t130 _ A7.out).mono ?_); rintro e w43 ⟨v127, rfl, ho0, hb⟩; refine ⟨_, rfl, ?_⟩; have HO128 := Aside0.mk (Kd.N_lower (Kd.N_mono (ok' := fun k_ => some k_ ≠ (.slice Ao34 y110.length co34 : Value).ownBlock ∧ some k_ ≠ (.slice Ao42 t118.length co42 : Value).ownBlock ∧ k_ ≠ gb113 ∧ k_ ≠ gb123) (Kd.S_N (Kd.S_bound ho0)) (fun k_ hk_ => ⟨(Kd.fresh' (Kd.N_lt qqT) k_ hk_.2.1), (Kd.fresh' (Kd.N_lt qqS) k_ hk_.2.1), (Kd.freshB (g := gb113) (o := .cells #[.int .i64 0, .int .i64 96, .slice Ao34 y110.length co34] 24 (0, 0)) (by refine bq ?_; refine blk_far ?_ NB113_123.out _; refine bq ?_; refine blk_far ?_ NB113_123.out _; refine bq ?_; refine blk_far ?_ NB113_123.out _; exact bq BK113.out) k_ hk_.2.1), (Kd.freshB (g := gb123) (o := .cells #[.int .i64 t116, .int .i64 t117, .slice Ao42 t118.length co42] 24 (0, 0)) (by refine bq ?_; refine blk_put (cs := #[.int .i64 t116, .int .i64 t117, .slice none 0 0]) ?_ 2 _ rfl; refine bq ?_; refine blk_put (cs := #[.int .i64 t116, .int .i64 0, .slice none 0 0]) ?_ 1 _ rfl; refine bq ?_; refine blk_put (cs := #[.int .i64 0, .int .i64 0, .slice none 0 0]) ?_ 0 _ rfl; exact bq BK123.out) k_ hk_.2.1)⟩)) (below_size (qS2 GE113 GE123 HB.out))); replace HO112 := Aside0.mk (Kd.N_elder' qqT qqd hb); replace HO120 := Aside0.mk (Kd.N_elder' qqS qqd hb); replace BK113 := Aside0.mk (blk_below (g := gb113) (o := .cells #[.int .i64 0, .int .i64 96, .slice Ao34 y110.length co34] 24 (0, 0)) (by refine bq ?_; refine blk_far ?_ NB113_123.out _; refine bq ?_; refine blk_far ?_ NB113_123.out _; refine bq ?_; refine blk_far ?_ NB113_123.out _; exact bq BK113.out) hb); replace BK123 := Aside0.mk (blk_below (g := gb123) (o := .cells #[.int .i64 t116, .int .i64 t117, .slice Ao42 t118.length co42] 24 (0, 0)) (by refine bq ?_; refine blk_put (cs := #[.int .i64 t116, .int .i64 t117, .slice none 0 0]) ?_ 2 _ rfl; refine bq ?_; refine blk_put (cs := #[.int .i64 t116, .int .i64 0, .slice none 0 0]) ?_ 1 _ rfl; refine bq ?_; refine blk_put (cs := #[.int .i64 0, .int .i64 0, .slice none 0 0]) ?_ 0 _ rfl; exact bq BK123.out) hb); replace HB := Aside0.mk (below_step (qS2 GE113 GE123 HB.out) hb); (try clear hb); (try clear hb2); (try clear hk); (try clear hi); (try clear ho0)) | ((with_reducible refine gate_dst (N := 7) rfl ?_); refine box_event ?hg (N := 7) ?hd (cs := #[.int .i64 0, .int .i64 0, .slice none 0 0]) (t := 24) ?hr ?_; (case hd => rfl); (case hg => rfl); (case hr => exact qq6); intro gb131 hg w44 hbox hb; replace HO112 := Aside0.mk (Kd.N_below (Kd.N_elderB (qN HO112.out) gb131 (Nat.le_of_eq hg.symm)) hb); replace HO120 := Aside0.mk (Kd.N_below (Kd.N_elderB (qN HO120.out) gb131 (Nat.le_of_eq hg.symm)) hb); replace HO128 := Aside0.mk (Kd.N_below (Kd.N_elderB (qN HO128.out) gb131 (Nat.le_of_eq hg.symm)) hb); have BK131 := Aside0.mk (hbox); have GW131 := Aside0.mk ((by rw [hg]; exact (below_size (qS2 GE113 GE123 HB.out)) : w.heap.size ≤ gb131)); have GE131 := Aside0.mk ((by rw [hg]; exact (below_size (qS2 GE113 GE123 HB.out)) : w.heap.size ≤ gb131)); replace HB := Aside0.mk (below_step (qS2 GE113 GE123 HB.out) hb); have NB113_131 := Aside0.mk ((qq1o : gb113 ≠ gb131)); have NB131_113 := Aside0.mk ((qq1q : gb131 ≠ gb113)); replace BK113 := Aside0.mk (blk_below (bq BK113.out) hb); have NB123_131 := Aside0.mk ((by rw [hg]; exact Nat.ne_of_lt (blk_lt (bq BK123.out)) : gb123 ≠ gb131)); have NB131_123 := Aside0.mk ((by rw [hg]; exact Nat.ne_of_gt (blk_lt (bq BK123.out)) : gb131 ≠ gb123)); replace BK123 := Aside0.mk (blk_below (bq BK123.out) hb); clear hb hbox hg; have hnb45 := NB131_113.out; have hnc45 := NB113_131.out; have hnb46 := NB131_123.out; have hnc46 := NB123_131.out; obtain ⟨hcz47_0, hcz47_1, hcz47_2, hfz47_0, hfz47_1, hfz47_2⟩ := blk3 BK131.out; obtain ⟨Ao48, co48, eo48⟩ := Kd.N_slice HO128.out; subst eo48) | ((with_reducible refine gate_callee (f := 24) rfl ?_); refine goesL_ (some 46) rfl rfl Try.func24 (by kernel_rfl) rfl #[.agg #[.int .i64 0, .int .i64 96, .slice none 0 0]] rfl qq0 ?_; (refine (smf_Check.calls k 0 96 _ _ ([] : List (List (S28))) t132 t133 _ ?side1 ?side2 A8.out).mono ?_); (case side1 => exact Kd.C_nil _ _); (case side2 => exact Nat.le_refl _); rintro e w49 ⟨rfl, hb⟩; refine ⟨_, rfl, ?_⟩; replace HO112 := Aside0.mk (Kd.N_below (by (with_reducible repeat (first | apply Kd.N_alloc | apply Kd.N_drewN | apply Kd.N_drew)); exact (Kd.N_mono (Kd.N_far (p := ⟨gb131, 2, none⟩) (Kd.N_far (p := ⟨gb131, 1, none⟩) (Kd.N_far (p := ⟨gb131, 0, none⟩) (Kd.N_mono HO112.out (fun k_ hk => (⟨hk, hk.2⟩ : _ ∧ k_ ≠ gb131))) (fun _ hk => hk.2) (.int .i64 t124)) (fun _ hk => hk.2) (.int .i64 t125)) (fun _ hk => hk.2) (.slice Ao48 t126.length co48)) (fun _ h_ => h_.1))) hb); replace HO120 := Aside0.mk (Kd.N_below (by (with_reducible repeat (first | apply Kd.N_alloc | apply Kd.N_drewN | apply Kd.N_drew)); exact (Kd.N_mono (Kd.N_far (p := ⟨gb131, 2, none⟩) (Kd.N_far (p := ⟨gb131, 1, none⟩) (Kd.N_far (p := ⟨gb131, 0, none⟩) (Kd.N_mono HO120.out (fun k_ hk => (⟨hk, hk.2⟩ : _ ∧ k_ ≠ gb131))) (fun _ hk => hk.2) (.int .i64 t124)) (fun _ hk => hk.2) (.int .i64 t125)) (fun _ hk => hk.2) (.slice Ao48 t126.length co48)) (fun _ h_ => h_.1))) hb); replace HO128 := Aside0.mk (Kd.N_below (by (with_reducible repeat (first | apply Kd.N_alloc | apply Kd.N_drewN | apply Kd.N_drew)); exact (Kd.N_mono (Kd.N_far (p := ⟨gb131, 2, none⟩) (Kd.N_far (p := ⟨gb131, 1, none⟩) (Kd.N_far (p := ⟨gb131, 0, none⟩) (Kd.N_mono HO128.out (fun k_ hk => (⟨hk, hk.2⟩ : _ ∧ k_ ≠ gb131))) (fun _ hk => hk.2) (.int .i64 t124)) (fun _ hk => hk.2) (.int .i64 t125)) (fun _ hk => hk.2) (.slice Ao48 t126.length co48)) (fun _ h_ => h_.1))) hb); replace BK113 := Aside0.mk (blk_below (g := gb113) (o := .cells #[.int .i64 0, .int .i64 96, .slice Ao34 y110.length co34] 24 (0, 0)) (by refine bq ?_; refine blk_far ?_ NB113_131.out _; refine bq ?_; refine blk_far ?_ NB113_131.out _; refine bq ?_; refine blk_far ?_ NB113_131.out _; exact bq BK113.out) hb); replace BK123 := Aside0.mk (blk_below (g := gb123) (o := .cells #[.int .i64 t116, .int .i64 t117, .slice Ao42 t118.length co42] 24 (0, 0)) (by refine bq ?_; refine blk_far ?_ NB123_131.out _; refine bq ?_; refine blk_far ?_ NB123_131.out _; refine bq ?_; refine blk_far ?_ NB123_131.out _; exact bq BK123.out) hb); replace BK131 := Aside0.mk (blk_below (g := gb131) (o := .cells #[.int .i64 t124, .int .i64 t125, .slice Ao48 t126.length co48] 24 (0, 0)) (by refine bq ?_; refine blk_put (cs := #[.int .i64 t124, .int .i64 t125, .slice none 0 0]) ?_ 2 _ rfl; refine bq ?_; refine blk_put (cs := #[.int .i64 t124, .int .i64 0, .slice none 0 0]) ?_ 1 _ rfl; refine bq ?_; refine blk_put (cs := #[.int .i64 0, .int .i64 0, .slice none 0 0]) ?_ 0 _ rfl; exact bq BK131.out) hb); replace HB := Aside0.mk (below_step (qS3 GE113 GE123 GE131 HB.out) hb); (try clear hb); (try clear hb2); (try clear hk); (try clear hi)) | ((with_reducible refine gate_callee (f := 13) rfl ?_); refine goesL_ (some 50) rfl rfl Try.func13 (by kernel_rfl) rfl #[.int .i64 0] rfl qq0 ?_; (with_reducible refine (partitalaw16_End.calls 0 t134 t135 t136 t137 t138 t139 _ A9.out).mono ?_); rintro e w50 ⟨rfl, hb⟩; refine ⟨_, rfl, ?_⟩; replace HO112 := Aside0.mk (Kd.N_below (qN HO112.out) hb); replace HO120 := Aside0.mk (Kd.N_below (qN HO120.out) hb); replace HO128 := Aside0.mk (Kd.N_below (qN HO128.out) hb); replace BK113 := Aside0.mk (blk_below (bq BK113.out) hb); replace BK123 := Aside0.mk (blk_below (bq BK123.out) hb); replace BK131 := Aside0.mk (blk_below (bq BK131.out) hb); replace HB := Aside0.mk (below_step (qS3 GE113 GE123 GE131 HB.out) hb); (try clear hb); (try clear hb2); (try clear hk); (try clear hi)) | ((with_reducible refine gate_dst (N := 51) rfl ?_); refine Kd.R_lit k28 _ 28 ?hg (N := 51) ?hd (xs := ([(⟨t134, t135, t136, t137, t138, t139⟩ : S28)] : List (S28))) (inner := [.int .i64 t134, .int .i64 t135, .int .i64 t136, .int .i64 t137, .int .i64 t138, .string t139]) (ok := fun _ => True) (okp := fun _ => True) ?hr ?hp (fun _ hk => hk) trivial (Below.refl _ _) (Nat.le_refl _) (by simp) ?_; (case hd => rfl); (case hg => rfl); (case hr => exact qq6); (case hp => exact (Reps.c6 (show Kd.M k28 _ _ _ (⟨t134, t135, t136, t137, t138, t139⟩ : S28) [.int .i64 t134, .int .i64 t135, .int .i64 t136, .int .i64 t137, .int .i64 t138, .string t139] from (k28_mkM _ _ _ (⟨t134, t135, t136, t137, t138, t139⟩ : S28) )) (Reps.none _ _))); intro v141 w51 ho52 hb hg_ hnew_; clear hg_ hnew_; (first | rw [← Ny140.out] at ho52 | (simp only [Int.reduceToNat] at ho52; rw [← Ny140.out] at ho52)); replace HO112 := Aside0.mk (Kd.N_elder' (qN HO112.out) (Kd.R_base ho52) hb); replace HO120 := Aside0.mk (Kd.N_elder' (qN HO120.out) (Kd.R_base ho52) hb); replace HO128 := Aside0.mk (Kd.N_elder' (qN HO128.out) (Kd.R_base ho52) hb); have HO142 := Aside0.mk (Kd.R_lower ho52 (below_size (qS3 GE113 GE123 GE131 HB.out))); replace BK113 := Aside0.mk (blk_below (bq BK113.out) hb); replace BK123 := Aside0.mk (blk_below (bq BK123.out) hb); replace BK131 := Aside0.mk (blk_below (bq BK131.out) hb); replace HB := Aside0.mk (below_step (qS3 GE113 GE123 GE131 HB.out) hb); clear hb ho52; obtain ⟨Ao53, co53, eo53⟩ := Kd.R_slice HO142.out; subst eo53) | ((with_reducible refine gate_dst (N := 52) rfl ?_); refine Kd.N_lit (Kd.slice 28 k28) _ 30 ?hg (N' := 52) ?hd (xs := ([y140, []] : List (List (S28)))) (inner := [.slice Ao53 y140.length co53, .slice none 0 0]) (ok := (fun k_ => some k_ ≠ (.slice Ao34 y110.length co34 : Value).ownBlock ∧ some k_ ≠ (.slice Ao42 t118.length co42 : Value).ownBlock ∧ some k_ ≠ (.slice Ao48 t126.length co48 : Value).ownBlock ∧ k_ ≠ gb113 ∧ k_ ≠ gb123 ∧ k_ ≠ gb131)) (okp := (fun k_ => some k_ ≠ (.slice Ao34 y110.length co34 : Value).ownBlock ∧ some k_ ≠ (.slice Ao42 t118.length co42 : Value).ownBlock ∧ some k_ ≠ (.slice Ao48 t126.length co48 : Value).ownBlock ∧ k_ ≠ gb113 ∧ k_ ≠ gb123 ∧ k_ ≠ gb131)) ?hr ?hp (fun _ hk => hk) ((show ∀ k_, w51.heap.size ≤ k_ → (fun k_ => some k_ ≠ (.slice Ao34 y110.length co34 : Value).ownBlock ∧ some k_ ≠ (.slice Ao42 t118.length co42 : Value).ownBlock ∧ some k_ ≠ (.slice Ao48 t126.length co48 : Value).ownBlock ∧ k_ ≠ gb113 ∧ k_ ≠ gb123 ∧ k_ ≠ gb131) k_ from fun k_ hk => ⟨Kd.fresh' (Kd.N_lt (qN HO112.out)) k_ hk, Kd.fresh' (Kd.N_lt (qN HO120.out)) k_ hk, Kd.fresh' (Kd.N_lt (qN HO128.out)) k_ hk, Kd.freshB (bq BK113.out) k_ hk, Kd.freshB (bq BK123.out) k_ hk, Kd.freshB (bq BK131.out) k_ hk⟩) _ (Nat.le_refl _)) (Below.refl _ _) (Nat.le_refl _) (by simp) ?_; (case hd => rfl); (case hg => rfl); (case hr => exact qq6); (case hp => exact (Reps.one (show Kd.FK (Kd.slice 28 k28) _ _ y140 [.slice Ao53 y140.length co53] from (Kd.FK_slice_mk (Kd.R_reads' (Kd.R_mono (ok' := (fun k_ => some k_ ≠ (.slice Ao34 y110.length co34 : Value).ownBlock ∧ some k_ ≠ (.slice Ao42 t118.length co42 : Value).ownBlock ∧ some k_ ≠ (.slice Ao48 t126.length co48 : Value).ownBlock ∧ k_ ≠ gb113 ∧ k_ ≠ gb123 ∧ k_ ≠ gb131)) (Kd.R_types (Kd.R_types (Kd.R_types (Kd.R_apart' (Kd.R_apart' (Kd.R_apart' (HO142.out) (Kd.N_typed HO112.out) (by decide)) (Kd.N_typed HO120.out) (by decide)) (Kd.N_typed HO128.out) (by decide)) BK113.out (by decide)) BK123.out (by decide)) BK131.out (by decide)) (fun k_ hk => ⟨hk.1.1.1.1.1.2, ⟨hk.1.1.1.1.2, ⟨hk.1.1.1.2, ⟨hk.1.1.2, ⟨hk.1.2, hk.2⟩⟩⟩⟩⟩))).2.1 (Kd.R_F (Kd.R_mono (ok' := (fun k_ => some k_ ≠ (.slice Ao34 y110.length co34 : Value).ownBlock ∧ some k_ ≠ (.slice Ao42 t118.length co42 : Value).ownBlock ∧ some k_ ≠ (.slice Ao48 t126.length co48 : Value).ownBlock ∧ k_ ≠ gb113 ∧ k_ ≠ gb123 ∧ k_ ≠ gb131)) (Kd.R_types (Kd.R_types (Kd.R_types (Kd.R_apart' (Kd.R_apart' (Kd.R_apart' (HO142.out) (Kd.N_typed HO112.out) (by decide)) (Kd.N_typed HO120.out) (by decide)) (Kd.N_typed HO128.out) (by decide)) BK113.out (by decide)) BK123.out (by decide)) BK131.out (by decide)) (fun k_ hk => ⟨hk.1.1.1.1.1.2, ⟨hk.1.1.1.1.2, ⟨hk.1.1.1.2, ⟨hk.1.1.2, ⟨hk.1.2, hk.2⟩⟩⟩⟩⟩))))) (Reps.one (show Kd.FK (Kd.slice 28 k28) _ _ [] [.slice none 0 0] from (Kd.FK_slice_mk (Nat.le_refl _) (Kd.F_nil _ _ _))) (Reps.none _ _)))); intro v144 w54 ho55 hb hg_ hnew_; clear hg_ hnew_; (first | rw [← Ny143.out] at ho55 | (simp only [Int.reduceToNat] at ho55; rw [← Ny143.out] at ho55)); replace HO112 := Aside0.mk (Kd.N_elder' (qN HO112.out) (Kd.N_base ho55) hb); replace HO120 := Aside0.mk (Kd.N_elder' (qN HO120.out) (Kd.N_base ho55) hb); replace HO128 := Aside0.mk (Kd.N_elder' (qN HO128.out) (Kd.N_base ho55) hb); have HO145 := Aside0.mk (Kd.N_lower ho55 (below_size (qS3 GE113 GE123 GE131 HB.out))); replace BK113 := Aside0.mk (blk_below (bq BK113.out) hb); replace BK123 := Aside0.mk (blk_below (bq BK123.out) hb); replace BK131 := Aside0.mk (blk_below (bq BK131.out) hb); replace HB := Aside0.mk (below_step (qS3 GE113 GE123 GE131 HB.out) hb); clear HO142; clear hb ho55; obtain ⟨Ao56, co56, eo56⟩ := Kd.N_slice HO145.out; subst eo56) | ((with_reducible refine gate_callee (f := 24) rfl ?_); refine goesL_ (some 54) rfl rfl Try.func24 (by kernel_rfl) rfl #[.agg #[.int .i64 1, .int .i64 96, .slice Ao56 y143.length co56]] rfl qq0 ?_; (with_reducible refine (smf_Check.calls k 1 96 _ _ y143 t146 t147 _ ?side1 ?side2 A10.out).mono ?_); (case side1 => repeat (first | exact (Kd.N_reads' HO145.out).2.2 | (with_reducible refine Kd.C_alloc ?_ _) | (with_reducible refine Kd.C_drewN ?_ _) | (with_reducible refine Kd.C_drew ?_))); (case side2 => exact (Kd.N_reads' HO145.out).2.1); rintro e w57 ⟨rfl, hb⟩; refine ⟨_, rfl, ?_⟩; replace HO112 := Aside0.mk (Kd.N_below (qN HO112.out) hb); replace HO120 := Aside0.mk (Kd.N_below (qN HO120.out) hb); replace HO128 := Aside0.mk (Kd.N_below (qN HO128.out) hb); replace HO145 := Aside0.mk (Kd.N_below (qN HO145.out) hb); replace BK113 := Aside0.mk (blk_below (bq BK113.out) hb); replace BK123 := Aside0.mk (blk_below (bq BK123.out) hb); replace BK131 := Aside0.mk (blk_below (bq BK131.out) hb); replace HB := Aside0.mk (below_step (qS3 GE113 GE123 GE131 HB.out) hb); (try clear hb); (try clear hb2); (try clear hk); (try clear hi)) | ((with_reducible refine gate_callee (f := 13) rfl ?_); refine goesL_ (some 59) rfl rfl Try.func13 (by kernel_rfl) rfl #[.int .i64 0] rfl qq0 ?_; (with_reducible refine (partitalaw16_End.calls 0 t148 t149 t150 t151 t152 t153 _ A11.out).mono ?_); rintro e w58 ⟨rfl, hb⟩; refine ⟨_, rfl, ?_⟩; replace HO112 := Aside0.mk (Kd.N_below (qN HO112.out) hb); replace HO120 := Aside0.mk (Kd.N_below (qN HO120.out) hb); replace HO128 := Aside0.mk (Kd.N_below (qN HO128.out) hb); replace HO145 := Aside0.mk (Kd.N_below (qN HO145.out) hb); replace BK113 := Aside0.mk (blk_below (bq BK113.out) hb); replace BK123 := Aside0.mk (blk_below (bq BK123.out) hb); replace BK131 := Aside0.mk (blk_below (bq BK131.out) hb); replace HB := Aside0.mk (below_step (qS3 GE113 GE123 GE131 HB.out) hb); (try clear hb); (try clear hb2); (try clear hk); (try clear hi)) | ((with_reducible refine gate_dst (N := 60) rfl ?_); refine Kd.R_lit k28 _ 28 ?hg (N := 60) ?hd (xs := ([(⟨0, 3, 0, 0, 0, (⟨#[]⟩ : ByteArray)⟩ : S28), (⟨t148, t149, t150, t151, t152, t153⟩ : S28)] : List (S28))) (inner := [.int .i64 0, .int .i64 3, .int .i64 0, .int .i64 0, .int .i64 0, .string (⟨#[]⟩ : ByteArray), .int .i64 t148, .int .i64 t149, .int .i64 t150, .int .i64 t151, .int .i64 t152, .string t153]) (ok := fun _ => True) (okp := fun _ => True) ?hr ?hp (fun _ hk => hk) trivial (Below.refl _ _) (Nat.le_refl _) (by simp) ?_; (case hd => rfl); (case hg => rfl); (case hr => exact qq6); (case hp => exact (Reps.c6 (show Kd.M k28 _ _ _ (⟨0, 3, 0, 0, 0, (⟨#[]⟩ : ByteArray)⟩ : S28) [.int .i64 0, .int .i64 3, .int .i64 0, .int .i64 0, .int .i64 0, .string (⟨#[]⟩ : ByteArray)] from (k28_mkM _ _ _ (⟨0, 3, 0, 0, 0, (⟨#[]⟩ : ByteArray)⟩ : S28) )) (Reps.c6 (show Kd.M k28 _ _ _ (⟨t148, t149, t150, t151, t152, t153⟩ : S28) [.int .i64 t148, .int .i64 t149, .int .i64 t150, .int .i64 t151, .int .i64 t152, .string t153] from (k28_mkM _ _ _ (⟨t148, t149, t150, t151, t152, t153⟩ : S28) )) (Reps.none _ _)))); intro v155 w59 ho60 hb hg_ hnew_; clear hg_ hnew_; (first | rw [← Ny154.out] at ho60 | (simp only [Int.reduceToNat] at ho60; rw [← Ny154.out] at ho60)); replace HO112 := Aside0.mk (Kd.N_elder' (qN HO112.out) (Kd.R_base ho60) hb); replace HO120 := Aside0.mk (Kd.N_elder' (qN HO120.out) (Kd.R_base ho60) hb); replace HO128 := Aside0.mk (Kd.N_elder' (qN HO128.out) (Kd.R_base ho60) hb); replace HO145 := Aside0.mk (Kd.N_elder' (qN HO145.out) (Kd.R_base ho60) hb); have HO156 := Aside0.mk (Kd.R_lower ho60 (below_size (qS3 GE113 GE123 GE131 HB.out))); replace BK113 := Aside0.mk (blk_below (bq BK113.out) hb); replace BK123 := Aside0.mk (blk_below (bq BK123.out) hb); replace BK131 := Aside0.mk (blk_below (bq BK131.out) hb); replace HB := Aside0.mk (below_step (qS3 GE113 GE123 GE131 HB.out) hb); clear hb ho60; obtain ⟨Ao61, co61, eo61⟩ := Kd.R_slice HO156.out; subst eo61) | ((with_reducible refine gate_dst (N := 61) rfl ?_); refine Kd.N_lit (Kd.slice 28 k28) _ 30 ?hg (N' := 61) ?hd (xs := ([y154] : List (List (S28)))) (inner := [.slice Ao61 y154.length co61]) (ok := (fun k_ => some k_ ≠ (.slice Ao34 y110.length co34 : Value).ownBlock ∧ some k_ ≠ (.slice Ao42 t118.length co42 : Value).ownBlock ∧ some k_ ≠ (.slice Ao48 t126.length co48 : Value).ownBlock ∧ some k_ ≠ (.slice Ao56 y143.length co56 : Value).ownBlock ∧ k_ ≠ gb113 ∧ k_ ≠ gb123 ∧ k_ ≠ gb131)) (okp := (fun k_ => some k_ ≠ (.slice Ao34 y110.length co34 : Value).ownBlock ∧ some k_ ≠ (.slice Ao42 t118.length co42 : Value).ownBlock ∧ some k_ ≠ (.slice Ao48 t126.length co48 : Value).ownBlock ∧ some k_ ≠ (.slice Ao56 y143.length co56 : Value).ownBlock ∧ k_ ≠ gb113 ∧ k_ ≠ gb123 ∧ k_ ≠ gb131)) ?hr ?hp (fun _ hk => hk) ((show ∀ k_, w59.heap.size ≤ k_ → (fun k_ => some k_ ≠ (.slice Ao34 y110.length co34 : Value).ownBlock ∧ some k_ ≠ (.slice Ao42 t118.length co42 : Value).ownBlock ∧ some k_ ≠ (.slice Ao48 t126.length co48 : Value).ownBlock ∧ some k_ ≠ (.slice Ao56 y143.length co56 : Value).ownBlock ∧ k_ ≠ gb113 ∧ k_ ≠ gb123 ∧ k_ ≠ gb131) k_ from fun k_ hk => ⟨Kd.fresh' (Kd.N_lt (qN HO112.out)) k_ hk, Kd.fresh' (Kd.N_lt (qN HO120.out)) k_ hk, Kd.fresh' (Kd.N_lt (qN HO128.out)) k_ hk, Kd.fresh' (Kd.N_lt (qN HO145.out)) k_ hk, Kd.freshB (bq BK113.out) k_ hk, Kd.freshB (bq BK123.out) k_ hk, Kd.freshB (bq BK131.out) k_ hk⟩) _ (Nat.le_refl _)) (Below.refl _ _) (Nat.le_refl _) (by simp) ?_; (case hd => rfl); (case hg => rfl); (case hr => exact qq6); (case hp => exact (Reps.one (show Kd.FK (Kd.slice 28 k28) _ _ y154 [.slice Ao61 y154.length co61] from (Kd.FK_slice_mk (Kd.R_reads' (Kd.R_mono (ok' := (fun k_ => some k_ ≠ (.slice Ao34 y110.length co34 : Value).ownBlock ∧ some k_ ≠ (.slice Ao42 t118.length co42 : Value).ownBlock ∧ some k_ ≠ (.slice Ao48 t126.length co48 : Value).ownBlock ∧ some k_ ≠ (.slice Ao56 y143.length co56 : Value).ownBlock ∧ k_ ≠ gb113 ∧ k_ ≠ gb123 ∧ k_ ≠ gb131)) (Kd.R_types (Kd.R_types (Kd.R_types (Kd.R_apart' (Kd.R_apart' (Kd.R_apart' (Kd.R_apart' (HO156.out) (Kd.N_typed HO112.out) (by decide)) (Kd.N_typed HO120.out) (by decide)) (Kd.N_typed HO128.out) (by decide)) (Kd.N_typed HO145.out) (by decide)) BK113.out (by decide)) BK123.out (by decide)) BK131.out (by decide)) (fun k_ hk => ⟨hk.1.1.1.1.1.1.2, ⟨hk.1.1.1.1.1.2, ⟨hk.1.1.1.1.2, ⟨hk.1.1.1.2, ⟨hk.1.1.2, ⟨hk.1.2, hk.2⟩⟩⟩⟩⟩⟩))).2.1 (Kd.R_F (Kd.R_mono (ok' := (fun k_ => some k_ ≠ (.slice Ao34 y110.length co34 : Value).ownBlock ∧ some k_ ≠ (.slice Ao42 t118.length co42 : Value).ownBlock ∧ some k_ ≠ (.slice Ao48 t126.length co48 : Value).ownBlock ∧ some k_ ≠ (.slice Ao56 y143.length co56 : Value).ownBlock ∧ k_ ≠ gb113 ∧ k_ ≠ gb123 ∧ k_ ≠ gb131)) (Kd.R_types (Kd.R_types (Kd.R_types (Kd.R_apart' (Kd.R_apart' (Kd.R_apart' (Kd.R_apart' (HO156.out) (Kd.N_typed HO112.out) (by decide)) (Kd.N_typed HO120.out) (by decide)) (Kd.N_typed HO128.out) (by decide)) (Kd.N_typed HO145.out) (by decide)) BK113.out (by decide)) BK123.out (by decide)) BK131.out (by decide)) (fun k_ hk => ⟨hk.1.1.1.1.1.1.2, ⟨hk.1.1.1.1.1.2, ⟨hk.1.1.1.1.2, ⟨hk.1.1.1.2, ⟨hk.1.1.2, ⟨hk.1.2, hk.2⟩⟩⟩⟩⟩⟩))))) (Reps.none _ _))); intro v158 w62 ho63 hb hg_ hnew_; clear hg_ hnew_; (first | rw [← Ny157.out] at ho63 | (simp only [Int.reduceToNat] at ho63; rw [← Ny157.out] at ho63)); replace HO112 := Aside0.mk (Kd.N_elder' (qN HO112.out) (Kd.N_base ho63) hb); replace HO120 := Aside0.mk (Kd.N_elder' (qN HO120.out) (Kd.N_base ho63) hb); replace HO128 := Aside0.mk (Kd.N_elder' (qN HO128.out) (Kd.N_base ho63) hb); replace HO145 := Aside0.mk (Kd.N_elder' (qN HO145.out) (Kd.N_base ho63) hb); have HO159 := Aside0.mk (Kd.N_lower ho63 (below_size (qS3 GE113 GE123 GE131 HB.out))); replace BK113 := Aside0.mk (blk_below (bq BK113.out) hb); replace BK123 := Aside0.mk (blk_below (bq BK123.out) hb); replace BK131 := Aside0.mk (blk_below (bq BK131.out) hb); replace HB := Aside0.mk (below_step (qS3 GE113 GE123 GE131 HB.out) hb); clear HO156; clear hb ho63; obtain ⟨Ao64, co64, eo64⟩ := Kd.N_slice HO159.out; subst eo64) | ((with_reducible refine gate_callee (f := 24) rfl ?_); refine goesL_ (some 63) rfl rfl Try.func24 (by kernel_rfl) rfl #[.agg #[.int .i64 0, .int .i64 96, .slice Ao64 y157.length co64]] rfl qq0 ?_; (with_reducible refine (smf_Check.calls k 0 96 _ _ y157 t160 t161 _ ?side1 ?side2 A12.out).mono ?_); (case side1 => repeat (first | exact (Kd.N_reads' HO159.out).2.2 | (with_reducible refine Kd.C_alloc ?_ _) | (with_reducible refine Kd.C_drewN ?_ _) | (with_reducible refine Kd.C_drew ?_))); (case side2 => exact (Kd.N_reads' HO159.out).2.1); rintro e w65 ⟨rfl, hb⟩; refine ⟨_, rfl, ?_⟩; replace HO112 := Aside0.mk (Kd.N_below (qN HO112.out) hb); replace HO120 := Aside0.mk (Kd.N_below (qN HO120.out) hb); replace HO128 := Aside0.mk (Kd.N_below (qN HO128.out) hb); replace HO145 := Aside0.mk (Kd.N_below (qN HO145.out) hb); replace HO159 := Aside0.mk (Kd.N_below (qN HO159.out) hb); replace BK113 := Aside0.mk (blk_below (bq BK113.out) hb); replace BK123 := Aside0.mk (blk_below (bq BK123.out) hb); replace BK131 := Aside0.mk (blk_below (bq BK131.out) hb); replace HB := Aside0.mk (below_step (qS3 GE113 GE123 GE131 HB.out) hb); (try clear hb); (try clear hb2); (try clear hk); (try clear hi)) | ((with_reducible refine gate_callee (f := 21) rfl ?_); refine goesL_ (some 67) rfl rfl Try.func21 (by kernel_rfl) rfl #[.string (⟨#[77, 84, 104, 120]⟩ : ByteArray)] rfl qq0 ?_; (with_reducible refine (smf_Parse.calls k (⟨#[77, 84, 104, 120]⟩ : ByteArray) t162 t163 t164 t167 t168 _ A13.out).mono ?_); rintro e w66 ⟨v165, rfl, ho0, hb⟩; refine ⟨_, rfl, ?_⟩; have HO166 := Aside0.mk (Kd.N_lower (Kd.N_mono (ok' := fun k_ => some k_ ≠ (.slice Ao34 y110.length co34 : Value).ownBlock ∧ some k_ ≠ (.slice Ao42 t118.length co42 : Value).ownBlock ∧ some k_ ≠ (.slice Ao48 t126.length co48 : Value).ownBlock ∧ some k_ ≠ (.slice Ao56 y143.length co56 : Value).ownBlock ∧ some k_ ≠ (.slice Ao64 y157.length co64 : Value).ownBlock ∧ k_ ≠ gb113 ∧ k_ ≠ gb123 ∧ k_ ≠ gb131) (Kd.S_N (Kd.S_bound ho0)) (fun k_ hk_ => ⟨(Kd.fresh' (Kd.N_lt (qN HO112.out)) k_ hk_.2.1), (Kd.fresh' (Kd.N_lt (qN HO120.out)) k_ hk_.2.1), (Kd.fresh' (Kd.N_lt (qN HO128.out)) k_ hk_.2.1), (Kd.fresh' (Kd.N_lt (qN HO145.out)) k_ hk_.2.1), (Kd.fresh' (Kd.N_lt (qN HO159.out)) k_ hk_.2.1), (Kd.freshB (bq BK113.out) k_ hk_.2.1), (Kd.freshB (bq BK123.out) k_ hk_.2.1), (Kd.freshB (bq BK131.out) k_ hk_.2.1)⟩)) (below_size (qS3 GE113 GE123 GE131 HB.out))); replace HO112 := Aside0.mk (Kd.N_elder' (qN HO112.out) qqd hb); replace HO120 := Aside0.mk (Kd.N_elder' (qN HO120.out) qqd hb); replace HO128 := Aside0.mk (Kd.N_elder' (qN HO128.out) qqd hb); replace HO145 := Aside0.mk (Kd.N_elder' (qN HO145.out) qqd hb); replace HO159 := Aside0.mk (Kd.N_elder' (qN HO159.out) qqd hb); replace BK113 := Aside0.mk (blk_below (bq BK113.out) hb); replace BK123 := Aside0.mk (blk_below (bq BK123.out) hb); replace BK131 := Aside0.mk (blk_below (bq BK131.out) hb); replace HB := Aside0.mk (below_step (qS3 GE113 GE123 GE131 HB.out) hb); (try clear hb); (try clear hb2); (try clear hk); (try clear hi); (try clear ho0)) | ((with_reducible refine gate_dst (N := 16) rfl ?_); refine box_event ?hg (N := 16) ?hd (cs := #[.int .i64 0, .int .i64 0, .slice none 0 0]) (t := 24) ?hr ?_; (case hd => rfl); (case hg => rfl); (case hr => exact qq6); intro gb169 hg w67 hbox hb; replace HO112 := Aside0.mk (Kd.N_below (Kd.N_elderB (qN HO112.out) gb169 (Nat.le_of_eq hg.symm)) hb); replace HO120 := Aside0.mk (Kd.N_below (Kd.N_elderB (qN HO120.out) gb169 (Nat.le_of_eq hg.symm)) hb); replace HO128 := Aside0.mk (Kd.N_below (Kd.N_elderB (qN HO128.out) gb169 (Nat.le_of_eq hg.symm)) hb); replace HO145 := Aside0.mk (Kd.N_below (Kd.N_elderB (qN HO145.out) gb169 (Nat.le_of_eq hg.symm)) hb); replace HO159 := Aside0.mk (Kd.N_below (Kd.N_elderB (qN HO159.out) gb169 (Nat.le_of_eq hg.symm)) hb); replace HO166 := Aside0.mk (Kd.N_below (Kd.N_elderB (qN HO166.out) gb169 (Nat.le_of_eq hg.symm)) hb); have BK169 := Aside0.mk (hbox); have GW169 := Aside0.mk ((by rw [hg]; exact (below_size (qS3 GE113 GE123 GE131 HB.out)) : w.heap.size ≤ gb169)); have GE169 := Aside0.mk ((by rw [hg]; exact (below_size (qS3 GE113 GE123 GE131 HB.out)) : w.heap.size ≤ gb169)); replace HB := Aside0.mk (below_step (qS3 GE113 GE123 GE131 HB.out) hb); have NB113_169 := Aside0.mk ((qq1o : gb113 ≠ gb169)); have NB169_113 := Aside0.mk ((qq1q : gb169 ≠ gb113)); replace BK113 := Aside0.mk (blk_below (bq BK113.out) hb); have NB123_169 := Aside0.mk ((by rw [hg]; exact Nat.ne_of_lt (blk_lt (bq BK123.out)) : gb123 ≠ gb169)); have NB169_123 := Aside0.mk ((by rw [hg]; exact Nat.ne_of_gt (blk_lt (bq BK123.out)) : gb169 ≠ gb123)); replace BK123 := Aside0.mk (blk_below (bq BK123.out) hb); have NB131_169 := Aside0.mk ((by rw [hg]; exact Nat.ne_of_lt (blk_lt (bq BK131.out)) : gb131 ≠ gb169)); have NB169_131 := Aside0.mk ((by rw [hg]; exact Nat.ne_of_gt (blk_lt (bq BK131.out)) : gb169 ≠ gb131)); replace BK131 := Aside0.mk (blk_below (bq BK131.out) hb); clear hb hbox hg; have hnb68 := NB169_113.out; have hnc68 := NB113_169.out; have hnb69 := NB169_123.out; have hnc69 := NB123_169.out; have hnb70 := NB169_131.out; have hnc70 := NB131_169.out; obtain ⟨hcz71_0, hcz71_1, hcz71_2, hfz71_0, hfz71_1, hfz71_2⟩ := blk3 BK169.out; obtain ⟨Ao72, co72, eo72⟩ := Kd.N_slice HO166.out; subst eo72; obtain ⟨hcz73_0, hcz73_1, hcz73_2, hfz73_0, hfz73_1, hfz73_2⟩ := blk3 BK113.out; obtain ⟨hcz74_0, hcz74_1, hcz74_2, hfz74_0, hfz74_1, hfz74_2⟩ := blk3 BK123.out) | (go_at_call 14; (with_reducible refine (smf_Same.calls k 0 96 _ _ y110 t116 t117 _ _ t118 true _ ?side1 ?side2 ?side3 ?side4 A18.out).mono ?_); (case side1 => refine (Kd.N_reads' (e := 30) (base := w.heap.size) (ok := ?ok1_) (n := y110.length) (c := co34) ?h1_).2.2; (case h1_ => exact (by (with_reducible repeat (first | apply Kd.N_alloc | apply Kd.N_drewN | apply Kd.N_drew)); have hq_ := (Kd.N_far (p := ⟨gb169, 2, none⟩) (Kd.N_far (p := ⟨gb169, 1, none⟩) (Kd.N_far (p := ⟨gb169, 0, none⟩) (Kd.N_mono HO112.out (fun k_ hk => (⟨hk, hk.2⟩ : _ ∧ k_ ≠ gb169))) (fun _ hk => hk.2) (.int .i64 t162)) (fun _ hk => hk.2) (.int .i64 t163)) (fun _ hk => hk.2) (.slice Ao72 t164.length co72)); exact hq_))); (case side2 => exact (Kd.N_reads' HO112.out).2.1); (case side3 => refine (Kd.N_reads' (e := 30) (base := w.heap.size) (ok := ?ok2_) (n := t118.length) (c := co42) ?h2_).2.2; (case h2_ => exact (by (with_reducible repeat (first | apply Kd.N_alloc | apply Kd.N_drewN | apply Kd.N_drew)); have hq_ := (Kd.N_far (p := ⟨gb169, 2, none⟩) (Kd.N_far (p := ⟨gb169, 1, none⟩) (Kd.N_far (p := ⟨gb169, 0, none⟩) (Kd.N_mono HO120.out (fun k_ hk => (⟨hk, hk.2⟩ : _ ∧ k_ ≠ gb169))) (fun _ hk => hk.2) (.int .i64 t162)) (fun _ hk => hk.2) (.int .i64 t163)) (fun _ hk => hk.2) (.slice Ao72 t164.length co72)); exact hq_))); (case side4 => exact (Kd.N_reads' HO120.out).2.1); rintro e w75 ⟨rfl, hb⟩; replace HO112 := Aside0.mk (Kd.N_below (by (with_reducible repeat (first | apply Kd.N_alloc | apply Kd.N_drewN | apply Kd.N_drew)); exact (Kd.N_mono (Kd.N_far (p := ⟨gb169, 2, none⟩) (Kd.N_far (p := ⟨gb169, 1, none⟩) (Kd.N_far (p := ⟨gb169, 0, none⟩) (Kd.N_mono HO112.out (fun k_ hk => (⟨hk, hk.2⟩ : _ ∧ k_ ≠ gb169))) (fun _ hk => hk.2) (.int .i64 t162)) (fun _ hk => hk.2) (.int .i64 t163)) (fun _ hk => hk.2) (.slice Ao72 t164.length co72)) (fun _ h_ => h_.1))) hb); replace HO120 := Aside0.mk (Kd.N_below (by (with_reducible repeat (first | apply Kd.N_alloc | apply Kd.N_drewN | apply Kd.N_drew)); exact (Kd.N_mono (Kd.N_far (p := ⟨gb169, 2, none⟩) (Kd.N_far (p := ⟨gb169, 1, none⟩) (Kd.N_far (p := ⟨gb169, 0, none⟩) (Kd.N_mono HO120.out (fun k_ hk => (⟨hk, hk.2⟩ : _ ∧ k_ ≠ gb169))) (fun _ hk => hk.2) (.int .i64 t162)) (fun _ hk => hk.2) (.int .i64 t163)) (fun _ hk => hk.2) (.slice Ao72 t164.length co72)) (fun _ h_ => h_.1))) hb); replace HO128 := Aside0.mk (Kd.N_below (by (with_reducible repeat (first | apply Kd.N_alloc | apply Kd.N_drewN | apply Kd.N_drew)); exact (Kd.N_mono (Kd.N_far (p := ⟨gb169, 2, none⟩) (Kd.N_far (p := ⟨gb169, 1, none⟩) (Kd.N_far (p := ⟨gb169, 0, none⟩) (Kd.N_mono HO128.out (fun k_ hk => (⟨hk, hk.2⟩ : _ ∧ k_ ≠ gb169))) (fun _ hk => hk.2) (.int .i64 t162)) (fun _ hk => hk.2) (.int .i64 t163)) (fun _ hk => hk.2) (.slice Ao72 t164.length co72)) (fun _ h_ => h_.1))) hb); replace HO145 := Aside0.mk (Kd.N_below (by (with_reducible repeat (first | apply Kd.N_alloc | apply Kd.N_drewN | apply Kd.N_drew)); exact (Kd.N_mono (Kd.N_far (p := ⟨gb169, 2, none⟩) (Kd.N_far (p := ⟨gb169, 1, none⟩) (Kd.N_far (p := ⟨gb169, 0, none⟩) (Kd.N_mono HO145.out (fun k_ hk => (⟨hk, hk.2⟩ : _ ∧ k_ ≠ gb169))) (fun _ hk => hk.2) (.int .i64 t162)) (fun _ hk => hk.2) (.int .i64 t163)) (fun _ hk => hk.2) (.slice Ao72 t164.length co72)) (fun _ h_ => h_.1))) hb); replace HO159 := Aside0.mk (Kd.N_below (by (with_reducible repeat (first | apply Kd.N_alloc | apply Kd.N_drewN | apply Kd.N_drew)); exact (Kd.N_mono (Kd.N_far (p := ⟨gb169, 2, none⟩) (Kd.N_far (p := ⟨gb169, 1, none⟩) (Kd.N_far (p := ⟨gb169, 0, none⟩) (Kd.N_mono HO159.out (fun k_ hk => (⟨hk, hk.2⟩ : _ ∧ k_ ≠ gb169))) (fun _ hk => hk.2) (.int .i64 t162)) (fun _ hk => hk.2) (.int .i64 t163)) (fun _ hk => hk.2) (.slice Ao72 t164.length co72)) (fun _ h_ => h_.1))) hb); replace HO166 := Aside0.mk (Kd.N_below (by (with_reducible repeat (first | apply Kd.N_alloc | apply Kd.N_drewN | apply Kd.N_drew)); exact (Kd.N_mono (Kd.N_far (p := ⟨gb169, 2, none⟩) (Kd.N_far (p := ⟨gb169, 1, none⟩) (Kd.N_far (p := ⟨gb169, 0, none⟩) (Kd.N_mono HO166.out (fun k_ hk => (⟨hk, hk.2⟩ : _ ∧ k_ ≠ gb169))) (fun _ hk => hk.2) (.int .i64 t162)) (fun _ hk => hk.2) (.int .i64 t163)) (fun _ hk => hk.2) (.slice Ao72 t164.length co72)) (fun _ h_ => h_.1))) hb); replace BK113 := Aside0.mk (blk_below (g := gb113) (o := .cells #[.int .i64 0, .int .i64 96, .slice Ao34 y110.length co34] 24 (0, 0)) (by refine bq ?_; refine blk_far ?_ NB113_169.out _; refine bq ?_; refine blk_far ?_ NB113_169.out _; refine bq ?_; refine blk_far ?_ NB113_169.out _; exact bq BK113.out) hb); replace BK123 := Aside0.mk (blk_below (g := gb123) (o := .cells #[.int .i64 t116, .int .i64 t117, .slice Ao42 t118.length co42] 24 (0, 0)) (by refine bq ?_; refine blk_far ?_ NB123_169.out _; refine bq ?_; refine blk_far ?_ NB123_169.out _; refine bq ?_; refine blk_far ?_ NB123_169.out _; exact bq BK123.out) hb); replace BK131 := Aside0.mk (blk_below (g := gb131) (o := .cells #[.int .i64 t124, .int .i64 t125, .slice Ao48 t126.length co48] 24 (0, 0)) (by refine bq ?_; refine blk_far ?_ NB131_169.out _; refine bq ?_; refine blk_far ?_ NB131_169.out _; refine bq ?_; refine blk_far ?_ NB131_169.out _; exact bq BK131.out) hb); replace BK169 := Aside0.mk (blk_below (g := gb169) (o := .cells #[.int .i64 t162, .int .i64 t163, .slice Ao72 t164.length co72] 24 (0, 0)) (by refine bq ?_; refine blk_put (cs := #[.int .i64 t162, .int .i64 t163, .slice none 0 0]) ?_ 2 _ rfl; refine bq ?_; refine blk_put (cs := #[.int .i64 t162, .int .i64 0, .slice none 0 0]) ?_ 1 _ rfl; refine bq ?_; refine blk_put (cs := #[.int .i64 0, .int .i64 0, .slice none 0 0]) ?_ 0 _ rfl; exact bq BK169.out) hb); replace HB := Aside0.mk (below_step (qS4 GE113 GE123 GE131 GE169 HB.out) hb); (try clear hb); (try clear hb2); (try clear hk); (try clear hi)))
  go_ret
  exact ⟨by first | rfl | (simp [errW_none, errW_some] <;> rfl) | (simp only [← hji4]; first | rfl | (simp [errW_none, errW_some] <;> rfl)) | (simp [*, errW_none, errW_some] <;> rfl), qS4 GE113 GE123 GE131 GE169 HB.out⟩
end Go.Proofs.Ytdmnknhlibaaoaa.M
namespace Go.Proofs.Ytdmnknhlibaaoaa.Z
open Go.RowKit Go.Proofs.YtdmnknhlibaaoaaW.PrintWords Go.Proofs.YtdmnknhlibaaoaaW.PrintLast Go.Proofs.YtdmnknhlibaaoaaW.PrintMore Go.Proofs.Ytdmnknhlibaaoaa.M
set_option linter.unusedVariables false
abbrev exB : ByteArray := ⟨#[77, 84, 104, 100, 0, 0, 0, 6, 0, 0, 0, 1, 0, 96, 77, 84, 114, 107, 0, 0, 0, 4, 0, 255, 47, 0]⟩
abbrev exE : S28 := ⟨0, 16, 0, 47, 0, ⟨#[]⟩⟩
theorem examples_f : partitalaw16_examples.f 40 = some true := by
  have h1 : smf_Print.f 40 0 96 [[exE]] = some (exB, 0) := by kernel_rfl
  have h2 : smf_Parse.f 40 exB = some (0, 96, [[exE]], 0, 0) := by kernel_rfl
  have h3 : smf_Parse.f 40 (exB.extract 0 ((mn (exB.size : Int) 20) : Int).toNat) = some (0, 0, [], 20, 152) := by kernel_rfl
  have h4 : smf_Check.f 40 0 96 [] = some (0, 160) := by kernel_rfl
  have h5 : smf_Check.f 40 1 96 [[exE], []] = some (1, 160) := by kernel_rfl
  have h6 : smf_Check.f 40 0 96 [[⟨0, 3, 0, 0, 0, ⟨#[]⟩⟩, exE]] = some (0, 151) := by kernel_rfl
  have h7 : smf_Parse.f 40 ⟨#[77, 84, 104, 120]⟩ = some (0, 0, [], 3, 160) := by kernel_rfl
  have h8 : smf_Same.f 40 0 96 [[exE]] 0 96 [[exE]] = some true := by kernel_rfl
  have he : partitalaw16_End.f 0 = some (0, 16, 0, 47, 0, ⟨#[]⟩) := rfl
  have hs : 0 ≤ mn (exB.size : Int) 20 ∧ mn (exB.size : Int) 20 ≤ (exB.size : Int) := by decide
  unfold partitalaw16_examples.f
  rw [he, Option.bind_some, Option.bind_some]
  dsimp only
  rw [h1, Option.bind_some]
  dsimp only
  rw [h2, Option.bind_some, if_pos hs.1, if_pos hs.2, h3, Option.bind_some, h4, Option.bind_some, Option.bind_some]
  dsimp only
  rw [h5, Option.bind_some, Option.bind_some]
  dsimp only
  rw [h6, Option.bind_some, h7, Option.bind_some]
  dsimp only
  rw [if_pos rfl, if_pos (by rw [Lib.toList_data]), if_pos rfl, if_pos rfl, h8, Option.bind_some, if_pos rfl, if_pos rfl, if_pos rfl, if_pos rfl, if_pos rfl, if_pos rfl, if_pos rfl, if_pos rfl, if_pos rfl]
  rfl
theorem examples_ev : Ev (fun k => partitalaw16_examples.f k) true := Ev.of (fun k => partitalaw16_examples.mono k) examples_f
theorem endM_right {n : Nat} (h : n ≤ 12) : Right (endM (n : Int)) := ⟨by show (0 : Int) ≤ (n : Int); omega, by show (n : Int) ≤ 268435455; omega, by show (⟨#[]⟩ : ByteArray).size ≤ 100000; decide, .inr (.inr ⟨rfl, rfl, rfl, by show (0 : Int) ≤ 47; decide, by show (47 : Int) ≤ 127; decide⟩)⟩
theorem endM_end (d : Int) : isEnd (endM d) = true := rfl
theorem tot_app : ∀ (a b : List Msg), tot (a ++ b) = tot a + tot b
  | [], b => (Nat.zero_add _).symm
  | m :: a, b => by
    rw [List.cons_append, tot, tot, tot_app a b]
    omega
theorem tot_gm : ∀ {a : List Msg}, (∀ m ∈ a, GM m) → tot a ≤ 210 * a.length
  | [], _ => Nat.zero_le _
  | m :: a, h => by
    have h1 := (h m (by simp)).2.2.1
    have h2 := tot_gm (a := a) (fun x hx => h x (by simp [hx]))
    rw [tot, List.length_cons]
    omega
theorem gt_facts {l : List Msg} (h : GT l) : Rights l ∧ endsB l = true ∧ tot l ≤ 2730 ∧ l.length ≤ 13 := by
  obtain ⟨a, rfl, h1, h2⟩ := h
  refine ⟨fun m hm => ?_, endsB_snoc (endM_end _) (fun m hm => (h2 m hm).2.1), ?_, ?_⟩
  · rcases List.mem_append.1 hm with hm | hm
    · exact (h2 m hm).1
    · rw [List.mem_singleton.1 hm]; exact endM_right h1
  · rw [tot_app]
    have := tot_gm h2
    have h3 : tot [endM (a.length : Int)] = 10 := rfl
    omega
  · rw [List.length_append, List.length_singleton]; omega
theorem totT_gt : ∀ {ts : List (List Msg)}, (∀ l ∈ ts, GT l) → totT ts ≤ 2738 * ts.length
  | [], _ => Nat.zero_le _
  | l :: r, h => by
    have h1 := (gt_facts (h l (by simp))).2.2.1
    have h2 := totT_gt (ts := r) (fun x hx => h x (by simp [hx]))
    rw [totT, List.length_cons]
    omega
structure FR (f d : Int) (ts : List (List Msg)) : Prop where
  head : HeadOk f d ts.length
  tr : ∀ l ∈ ts, Rights l ∧ endsB l = true
  sm : totT ts ≤ 99000
theorem gf_fr {f d : Int} {ts : List (List Msg)} (h : GF f d ts) : FR f d ts := by
  obtain ⟨h1, h2, h3, h4, h5, h6, h7⟩ := h
  refine ⟨⟨h1, h2, h3, h4, by omega, h6⟩, fun l hl => ⟨(gt_facts (h7 l hl)).1, (gt_facts (h7 l hl)).2.1⟩, ?_⟩
  have := totT_gt h7
  omega
theorem tot_len2 : ∀ l : List Msg, l.length ≤ tot l
  | [] => Nat.le_refl _
  | m :: r => by
    have := tot_len2 r
    rw [tot, List.length_cons]
    omega
theorem FR.small {f d : Int} {ts : List (List Msg)} (h : FR f d ts) : Small ts := by
  refine ⟨by have := h.head.2.2.2.2.1; omega, fun l hl => ?_⟩
  have h1 := totT_mem hl
  have h2 := tot_len2 l
  have h3 := h.sm
  omega
theorem FR.check {f d : Int} {ts : List (List Msg)} (h : FR f d ts) : checkM f d ts = (0, 0) := by
  obtain ⟨⟨h1, h2, h3, h4, h5, h6⟩, h7, h8⟩ := h
  have hb : headBad f d ts.length = false := by
    unfold headBad
    rw [decide_eq_false (show ¬ f < 0 by omega), decide_eq_false (show ¬ f > 1 by omega), decide_eq_false (show ¬ d < 1 by omega), decide_eq_false (show ¬ d > 32767 by omega), decide_eq_false (show ¬ ts.length < 1 by omega), decide_eq_false (show ¬ ts.length > 16 by omega)]
    by_cases c : f = 0
    · rw [decide_eq_false (show ¬ ts.length > 1 by have := h6 c; omega)]; rfl
    · rw [decide_eq_false c, Bool.and_false]; rfl
  unfold checkM
  rw [hb, if_neg (by decide)]
  exact checkL_ok h7
def bytesF (f d : Int) (ts : List (List Msg)) : ByteArray := strOfNums (fileB f d ts)
theorem FR.len {f d : Int} {ts : List (List Msg)} (h : FR f d ts) : (fileB f d ts).length ≤ 99014 := by
  have := trksB_len ts
  have := h.sm
  unfold fileB
  rw [List.length_append, headB_len]
  omega
theorem FR.size {f d : Int} {ts : List (List Msg)} (h : FR f d ts) : (bytesF f d ts).size = (fileB f d ts).length := str_size _
theorem FR.bytes {f d : Int} {ts : List (List Msg)} (h : FR f d ts) : bytesOf (bytesF f d ts) = fileB f d ts := bytesOf_str (fileB_bytes (fun l hl => (h.tr l hl).1))
theorem FR.print {f d : Int} {ts : List (List Msg)} (h : FR f d ts) : Ev (fun k => smf_Print.f k f d ts) (bytesF f d ts, 0) := by
  refine Ev.ok (print_ev f d ts h.small (by have := h.sm; omega)) ?_
  have hl := h.len
  rw [h.check, if_pos rfl]
  unfold fin
  rw [if_neg (by omega)]
  rfl
theorem FR.trk {f d : Int} {ts : List (List Msg)} (h : FR f d ts) : ∀ l ∈ ts, Rights l ∧ endsB l = true ∧ (enc 0 l).length < 4294967296 := by
  intro l hl
  obtain ⟨h1, h2⟩ := h.tr l hl
  have h3 := totT_mem hl
  have h4 := enc_tot l 0
  have h5 := h.sm
  exact ⟨h1, h2, by omega⟩
theorem FR.parse {f d : Int} {ts : List (List Msg)} (h : FR f d ts) : Ev (fun k => smf_Parse.f k (bytesF f d ts)) (f, d, ts, 0, 0) := by
  have hp := pr_trks h.trk []
  rw [List.append_nil] at hp
  have hl := h.len
  have hs := h.size
  have := parse_right (s := bytesF f d ts) (by omega) h.head h.bytes hp
  exact this
end Go.Proofs.Ytdmnknhlibaaoaa.Z
namespace Go.Proofs.Ytdmnknhlibaaoaa.R
open Go.RowKit Go.Proofs.YtdmnknhlibaaoaaW.PrintWords Go.ChangeShapes Go.WideShapes Go.Deep
section
variable {H : Type} (enc : TypeId × Value → H) (P : Program) (w : World)
def Rds {α : Type} (t : TypeId) (d : Kd α) (Q : α → Prop) : Prop :=
  ∀ (fuel : Nat) (cs : List Value) (y : DataW H × List MemPlace), DataW.trod enc P w 0 (fun _ => true) true fuel t cs = some y → ∃ x, d.K w x cs ∧ Q x
variable {enc P w}
theorem rds_int {t : TypeId} {k : IntKind} (ht : P.underlying t = some (.int k)) : Rds enc P w t (Kd.int k) (fun n => (Lit.int k n).wf = true) := by
  intro fuel cs y h
  obtain ⟨n, hcs, _, hw⟩ := DataW.trod_int ht h
  exact ⟨n, hcs, hw⟩
theorem rds_string {t : TypeId} (ht : P.underlying t = some .string) : Rds enc P w t Kd.string (fun s => s.size ≤ maxLen) := by
  intro fuel cs y h
  obtain ⟨s, hcs, _, hw⟩ := DataW.trod_string ht h
  exact ⟨s, hcs, hw⟩
theorem list_of {α : Type} {Φ : Nat → α → Prop} : ∀ n : Nat, (∀ i, i < n → ∃ x, Φ i x) → ∃ xs : List α, xs.length = n ∧ ∀ i x, xs[i]? = some x → Φ i x
  | 0, _ => ⟨[], rfl, fun i x h => by simp at h⟩
  | n + 1, h => by
    obtain ⟨xs, hl, hx⟩ := list_of n (fun i hi => h i (by omega))
    obtain ⟨x, hn⟩ := h n (by omega)
    refine ⟨xs ++ [x], by simp [hl], fun i z hz => ?_⟩
    by_cases hi : i < n
    · rw [List.getElem?_append_left (by omega)] at hz
      exact hx i z hz
    · have hlt := (List.getElem?_eq_some_iff.1 hz).1
      rw [List.length_append, List.length_singleton] at hlt
      obtain rfl : i = n := by omega
      rw [List.getElem?_append_right (by omega), hl, Nat.sub_self] at hz
      simp at hz
      rw [← hz]
      exact hn
theorem rds_slice {α : Type} {t e : TypeId} {d : Kd α} {Q : α → Prop} (ht : P.underlying t = some (.slice e)) (hC : P.cellsOf e = d.sz) (hE : Rds enc P w e d Q) :
    Rds enc P w t (Kd.slice e d) (fun xs => ∀ x ∈ xs, Q x) := by
  intro fuel cs y h
  rcases open_slice ht h with ⟨rfl, _⟩ | ⟨a, len, cap, m, n, D, Pl, rfl, _, hl, hm, hmm, _, hel⟩
  · exact ⟨[], ⟨none, 0, rfl, Nat.le_refl _, rfl, Nat.zero_le _, fun h0 => absurd h0 (Nat.lt_irrefl _)⟩, fun x hx => by cases hx⟩
  · have hm' : len ≤ m := by rw [hmm]; simp; omega
    obtain ⟨xs, hxl, hx⟩ := list_of (Φ := fun i x => (∃ c, c.length = d.sz ∧ d.K w x c ∧ ∀ j u, c[j]? = some u → w.cell? (a.add (i * d.sz + j)) = some u) ∧ Q x) len (fun i hi => by
      obtain ⟨cs', hc, htr⟩ := hel i (by omega)
      obtain ⟨x, hK, hQ⟩ := hE n cs' _ htr
      obtain ⟨_, hcl, hat⟩ := World.cells?_some hc
      rw [hC] at hcl hat
      refine ⟨x, ⟨cs', hcl, hK, fun j u hu => ?_⟩, hQ⟩
      have hj : j < d.sz := by
        have := (List.getElem?_eq_some_iff.1 hu).1
        omega
      have := hat j hj
      rw [hu, Go.Deep.add_add] at this
      exact this)
    subst hxl
    refine ⟨xs, ⟨some a, cap, rfl, hl, rfl, by unfold maxLen at hm; omega, fun _ => ⟨a, rfl, fun j p hp => (hx j p hp).1⟩⟩, fun x hxm => ?_⟩
    obtain ⟨i, hi⟩ := List.getElem?_of_mem hxm
    exact (hx i x hi).2
theorem field_one {fs : Array Field} {n : Nat} {cs : List Value} {xs : List (DataW H × List MemPlace)} (hone : oneCellFields P fs = true) (hx : xs.length = fs.size)
    (hf : ∀ (i : Nat) (f : Field), fs[i]? = some f → DataW.trod enc P w 0 (fun _ => true) true n f.type ((cs.drop f.offset).take (P.cellsOf f.type)) = xs[i]?) (i : Nat) (f : Field) (hi : fs[i]? = some f) :
    ∃ y, DataW.trod enc P w 0 (fun _ => true) true n f.type ((cs.drop i).take 1) = some y := by
  obtain ⟨ho, hk⟩ := hone_of hone i f hi
  have h1 := hf i f hi
  rw [ho, hk] at h1
  have hlt : i < xs.length := by rw [hx]; exact (Array.getElem?_eq_some_iff.1 hi).1
  exact ⟨_, h1.trans (List.getElem?_eq_getElem hlt)⟩
end
end Go.Proofs.Ytdmnknhlibaaoaa.R
namespace Go.Proofs.Ytdmnknhlibaaoaa.R
open Go.RowKit Go.Proofs.YtdmnknhlibaaoaaW.PrintWords Go.ChangeShapes Go.WideShapes Go.Deep Go.Proofs.Ytdmnknhlibaaoaa.M
set_option linter.unusedVariables false
def In64 (x : Int) : Prop := -9223372036854775808 ≤ x ∧ x ≤ 9223372036854775807
theorem in64_wf {x : Int} (h : (Lit.int .i64 x).wf = true) : In64 x := by
  simpa [In64, Lit.wf, IntKind.min, IntKind.max, IntKind.signed, IntKind.bits] using h
def In28 (x : S28) : Prop := In64 x.f0 ∧ In64 x.f1 ∧ In64 x.f2 ∧ In64 x.f3 ∧ In64 x.f4
theorem rds_28 {H : Type} {enc : TypeId × Value → H} {w : World} : Rds enc Try.prog w 28 k28 In28 := by
  intro fuel cs y h
  obtain ⟨xs, n, _, _, hlen, hxl, hf⟩ := DataW.trod_struct Try.underlying28 h
  have hC : Try.prog.cellsOf 28 = 6 := by kernel_rfl
  rw [hC] at hlen
  match cs, hlen with
  | [c0, c1, c2, c3, c4, c5], _ =>
    have hfield := field_one (by kernel_rfl) hxl hf
    obtain ⟨y0, t0⟩ := hfield 0 _ rfl
    obtain ⟨y1, t1⟩ := hfield 1 _ rfl
    obtain ⟨y2, t2⟩ := hfield 2 _ rfl
    obtain ⟨y3, t3⟩ := hfield 3 _ rfl
    obtain ⟨y4, t4⟩ := hfield 4 _ rfl
    obtain ⟨y5, t5⟩ := hfield 5 _ rfl
    obtain ⟨x0, k0, q0⟩ := rds_int Try.underlying3 _ _ _ t0
    obtain ⟨x1, k1, q1⟩ := rds_int Try.underlying3 _ _ _ t1
    obtain ⟨x2, k2, q2⟩ := rds_int Try.underlying3 _ _ _ t2
    obtain ⟨x3, k3, q3⟩ := rds_int Try.underlying3 _ _ _ t3
    obtain ⟨x4, k4, q4⟩ := rds_int Try.underlying3 _ _ _ t4
    obtain ⟨x5, k5, _⟩ := rds_string Try.underlying9 _ _ _ t5
    have e0 : [c0] = [Value.int .i64 x0] := k0
    have e1 : [c1] = [Value.int .i64 x1] := k1
    have e2 : [c2] = [Value.int .i64 x2] := k2
    have e3 : [c3] = [Value.int .i64 x3] := k3
    have e4 : [c4] = [Value.int .i64 x4] := k4
    have e5 : [c5] = [Value.string x5] := k5
    injection e0 with e0 _
    injection e1 with e1 _
    injection e2 with e2 _
    injection e3 with e3 _
    injection e4 with e4 _
    injection e5 with e5 _
    subst e0 e1 e2 e3 e4 e5
    exact ⟨⟨x0, x1, x2, x3, x4, x5⟩, k28_mk w ⟨x0, x1, x2, x3, x4, x5⟩, in64_wf q0, in64_wf q1, in64_wf q2, in64_wf q3, in64_wf q4⟩
structure F24 where
  f0 : Int
  f1 : Int
  f2 : List (List S28)
def k24 : Kd F24 := Kd.iso (Kd.pair (Kd.int .i64) (Kd.pair (Kd.int .i64) (Kd.slice 30 (Kd.slice 28 k28)))) (fun x : F24 => (x.f0, x.f1, x.f2))
theorem k24_open {w : World} {x : F24} {cs : List Value} (h : k24.K w x cs) : ∃ A c, cs = [.int .i64 x.f0, .int .i64 x.f1, .slice A x.f2.length c] ∧ x.f2.length ≤ c ∧ Kd.C (Kd.slice 28 k28) w A x.f2.length x.f2 := by
  obtain ⟨_, _, rfl, rfl, ⟨_, _, rfl, rfl, ⟨A, c, rfl, hl, hC⟩⟩⟩ := h
  exact ⟨A, c, rfl, hl, hC⟩
def In24 (x : F24) : Prop := In64 x.f0 ∧ In64 x.f1 ∧ ∀ l ∈ x.f2, ∀ m ∈ l, In28 m
theorem rds_24 {H : Type} {enc : TypeId × Value → H} {w : World} : Rds enc Try.prog w 24 k24 In24 := by
  intro fuel cs y h
  obtain ⟨xs, n, _, _, hlen, hxl, hf⟩ := DataW.trod_struct Try.underlying24 h
  have hC : Try.prog.cellsOf 24 = 3 := by kernel_rfl
  rw [hC] at hlen
  match cs, hlen with
  | [c0, c1, c2], _ =>
    have hfield := field_one (by kernel_rfl) hxl hf
    obtain ⟨y0, t0⟩ := hfield 0 _ rfl
    obtain ⟨y1, t1⟩ := hfield 1 _ rfl
    obtain ⟨y2, t2⟩ := hfield 2 _ rfl
    obtain ⟨x0, k0, q0⟩ := rds_int Try.underlying3 _ _ _ t0
    obtain ⟨x1, k1, q1⟩ := rds_int Try.underlying3 _ _ _ t1
    obtain ⟨x2, k2, q2⟩ := rds_slice (d := Kd.slice 28 k28) Try.underlying22 (by kernel_rfl) (rds_slice (d := k28) Try.underlying30 (by kernel_rfl) rds_28) _ _ _ t2
    have e0 : [c0] = [Value.int .i64 x0] := k0
    have e1 : [c1] = [Value.int .i64 x1] := k1
    obtain ⟨A, c, e2_, hl, hCC⟩ := k2
    have e2 : [c2] = [Value.slice A x2.length c] := e2_
    clear e2_
    injection e0 with e0 _
    injection e1 with e1 _
    injection e2 with e2 _
    subst e0 e1 e2
    refine ⟨⟨x0, x1, x2⟩, ⟨[_], [_, _], rfl, rfl, ⟨[_], [_], rfl, rfl, ⟨A, c, rfl, hl, hCC⟩⟩⟩, in64_wf q0, in64_wf q1, q2⟩
end Go.Proofs.Ytdmnknhlibaaoaa.R
