/- What the walker's small functions answer: which endings count behind a jump, whether a bar is played. -/
import Derived.Test.YtendmmagjjhfnaaM14
import Derived.Test.YtendmmagjjhfnaaM15
import Derived.Test.YtendmmagjjhfnaaM16
import Derived.Test.YtendmmagjjhfnaaM17
import Derived.Test.YtendmmagjjhfnaaM3
namespace Go.Proofs.Ytendmmagjjhfnaa.M
open Go.RowKit Go.Proofs.YtendmmagjjhfnaaW.PrintWords Go.Proofs.YtendmmagjjhfnaaW.PrintLast Go.Proofs.YtendmmagjjhfnaaW.PrintMore
set_option linter.unusedVariables false
set_option linter.unusedSimpArgs false

/-- The last of the bars with endings that stand side by side from k on. -/
def lastIx (l : List S38) : Nat → Nat → Nat
  | 0, k => k
  | n + 1, k => if k + 1 < l.length ∧ 0 < (rd_T38 l ((k + 1 : Nat) : Int)).f2.length then lastIx l n (k + 1) else k
theorem lastIx_lt (l : List S38) : ∀ (n k : Nat), k < l.length → lastIx l n k < l.length
  | 0, k, h => h
  | n + 1, k, h => by
    rw [lastIx]
    split
    · next hc => exact lastIx_lt l n (k + 1) hc.1
    · exact h
def lastOf (l : List S38) (k : Nat) : Nat := lastIx l (l.length - k) k
theorem lastOf_step {l : List S38} {k : Nat} (h : k + 1 < l.length) (he : 0 < (rd_T38 l ((k + 1 : Nat) : Int)).f2.length) : lastOf l k = lastOf l (k + 1) := by
  unfold lastOf
  rw [show l.length - k = (l.length - (k + 1)) + 1 by omega, lastIx, if_pos ⟨h, he⟩]
theorem lastOf_stop {l : List S38} {k : Nat} (hk : k < l.length) (h : ¬ (k + 1 < l.length ∧ 0 < (rd_T38 l ((k + 1 : Nat) : Int)).f2.length)) : lastOf l k = k := by
  unfold lastOf
  rw [show l.length - k = (l.length - (k + 1)) + 1 by omega, lastIx, if_neg h]

set_option maxHeartbeats 8000000 in
set_option maxRecDepth 100000 in
theorem last_any (g : Nat) (l : List (S38)) (s c j : Int) (bar : Nat) (pass mark : Int) (closed : Bool) (jump : Int) (fn cd : Bool) (w0 w : World) (hI : IsS71 w0 w g l s c j (bar : Int) pass mark closed jump fn cd)
    (hB : Below w0.heap.size w0 w) (hb : bar < l.length) (hm : l.length ≤ 140737488351232) :
    ∃ A2 c2, (rd_T38 l (lastOf l bar : Int)).f2.length ≤ c2 ∧ Kd.C (Kd.int .i64) w0 A2 (rd_T38 l (lastOf l bar : Int)).f2.length (rd_T38 l (lastOf l bar : Int)).f2 ∧
    ∀ n, Calls Try.prog 53 #[.pointer (some ⟨g, 0, none⟩)] (w.drewN n) fun e w' => e = .returned (.slice A2 (rd_T38 l (lastOf l bar : Int)).f2.length c2) ∧ w' = w.drewN n := by
  obtain ⟨A0, c0, HG, hg, HC⟩ := hI
  have hr := lastIx_lt l (l.length - bar) bar hb
  obtain ⟨ad, A2, c2, rfl, h0, h1, h2, h3, h4, h5, h6, h7, hl, hC⟩ := at_T38 HC ((lastOf l bar : Nat) : Int) (by omega) (by unfold lastOf; omega)
  refine ⟨A2, c2, hl, hC, fun n => ?_⟩
  replace hB := pw_below_drewN hB n
  replace HG : (w.drewN n).heap[g]? = _ := HG
  obtain ⟨W, hW⟩ : ∃ W, w.drewN n = W := ⟨_, rfl⟩
  rw [hW] at hB HG ⊢
  clear hW
  clear h0 h1 h3 h4 h5 h6 h7
  rw [Int.toNat_natCast] at h2
  replace h2 := (hB.cell (World.block_lt_of_cell? w0 _ h2)).trans h2
  obtain ⟨r, hr'⟩ : ∃ r, lastOf l bar = r := ⟨_, rfl⟩
  have HR := Aside0.mk hr'
  rw [hr'] at h2 hl hC ⊢
  clear hr' hr
  obtain ⟨es, hes⟩ : ∃ es, (rd_T38 l (r : Int)).f2 = es := ⟨_, rfl⟩
  rw [hes] at h2 ⊢
  clear hes hl hC
  have H2 := Aside0.mk h2
  have HC0 := Aside0.mk HC
  have HBB := Aside0.mk hB
  clear h2 HC hB
  have e0 : W.cell? ⟨g, 0, none⟩ = some (.slice (some ad) l.length c0) := (blk_cell HG 0).trans rfl
  have e4 : W.cell? ⟨g, 4, none⟩ = some (.int .i64 (bar : Int)) := (blk_cell HG 4).trans rfl
  clear HG hg
  go_enter Try.func53, Try.ntmps53
  go_wp2
  go_loop [3] (fun i => ∃ q : Nat, q < l.length ∧ i = .int .i64 (q : Int) ∧ Aside0 (lastOf l q = r)) (fun i => l.length - (intOf i).toNat)
  case atStart => exact ⟨bar, hb, rfl, HR⟩
  case round =>
    clear HR
    obtain ⟨q, hq, rfl, HR⟩ := hrel
    by_cases hlt : q + 1 < l.length
    · obtain ⟨ad', A3, c3, hea, k0, k1, k2, k3, k4, k5, k6, k7, _, _⟩ := at_T38 HC0.out ((q : Int) + 1) (by omega) (by omega)
      cases hea
      replace k2 := (HBB.out.cell (World.block_lt_of_cell? w0 _ k2)).trans k2
      clear k0 k1 k3 k4 k5 k6 k7
      have ht : ((q : Int) + 1).toNat = q + 1 := by omega
      rw [ht] at k2
      clear ht
      obtain ⟨gs, hgs⟩ : ∃ gs, (rd_T38 l ((q : Int) + 1)).f2 = gs := ⟨_, rfl⟩
      rw [hgs] at k2
      have hgs' : (rd_T38 l ((q + 1 : Nat) : Int)).f2 = gs := hgs
      have hlb : decide ((q : Int) + 1 < (l.length : Int)) = true := decide_eq_true (by omega)
      by_cases hn : 0 < gs.length
      · have HS := Aside0.mk (lastOf_step hlt (by rw [hgs']; exact hn))
        have hn1 : decide (0 < gs.length) = true := decide_eq_true hn
        clear hn hgs hgs'
        go_wp2
        go_round
        case rel => exact ⟨q + 1, hlt, by go_num, ⟨HS.out.symm.trans HR.out⟩⟩
        case measure => simp [intOf]; omega
      · have HS := Aside0.mk (lastOf_stop (l := l) hq (fun h => by rw [hgs'] at h; exact hn h.2))
        have hn1 : decide (0 < gs.length) = false := decide_eq_false hn
        clear hn hgs hgs'
        obtain rfl : q = r := HS.out.symm.trans HR.out
        have h2 := H2.out
        clear HS HR
        go_wp2
        go_ret
        exact ⟨rfl, rfl⟩
    · have HS := Aside0.mk (lastOf_stop (l := l) hq (fun h => hlt h.1))
      have hlb : decide ((q : Int) + 1 < (l.length : Int)) = false := decide_eq_false (by omega)
      obtain rfl : q = r := HS.out.symm.trans HR.out
      have h2 := H2.out
      clear HS HR
      go_wp2
      go_ret
      exact ⟨rfl, rfl⟩

theorem quiet_d {P : Program} {f : FuncId} {args : Array Value} {w : World} {n : Nat} {v : Value}
    (h : Calls P f args (w.drewN n) fun e w' => e = .returned v ∧ Drawn0 (w.drewN n) w') : Calls P f args (w.drewN n) fun e w'' => e = .returned v ∧ ∃ m, w'' = w.drewN m :=
  Calls.quiet_of (h.mono fun _ _ ⟨a, b⟩ => ⟨a, b.out⟩)
/-- Is the bar played? -/
def stO (k : Nat) (l : List S38) (bar : Nat) (pass jump : Int) (x : S38) : Option Bool :=
  if x.f2.length = 0 then some true else if jump = 0 then slices_Contains_int_int.f k x.f2 pass else slices_Equal_int_int.f k x.f2 (rd_T38 l (lastOf l bar : Int)).f2

set_option maxHeartbeats 8000000 in
set_option maxRecDepth 100000 in
theorem stands_any (k : Nat) (g : Nat) (l : List (S38)) (s c j : Int) (bar : Nat) (pass mark : Int) (closed : Bool) (jump : Int) (fn cd : Bool) (x : S38) (A1 : Option Addr) (c1 : Nat) (b : Bool) (w0 w : World) (hI : IsS71 w0 w g l s c j (bar : Int) pass mark closed jump fn cd)
    (hB : Below w0.heap.size w0 w) (hb : bar < l.length) (hm : l.length ≤ 140737488351232) (hx : x.f2.length ≤ c1) (hX : Kd.C (Kd.int .i64) w0 A1 x.f2.length x.f2) (h : stO k l bar pass jump x = some b) :
    Calls Try.prog 48 #[.pointer (some ⟨g, 0, none⟩), .agg #[.bool x.f0, .int .i64 x.f1, .slice A1 x.f2.length c1, .bool x.f3, .bool x.f4, .bool x.f5, .bool x.f6, .int .i64 x.f7]] w fun e w' => e = .returned (.bool b) ∧ Below w.heap.size w w' := by
  have hu38 := Try.underlying38
  obtain ⟨o, ho⟩ : ∃ o : Obj, o = .cells #[.bool x.f0, .int .i64 x.f1, .slice A1 x.f2.length c1, .bool x.f3, .bool x.f4, .bool x.f5, .bool x.f6, .int .i64 x.f7] 38 := ⟨_, rfl⟩
  obtain ⟨A2, c2, hl2, hC2, hcall⟩ := last_any g l s c j bar pass mark closed jump fn cd w0 (w.alloc o) (hI.alloc o) (below_alloc hB o) hb hm
  have HL := Aside0.mk hcall
  have HX1 : ∀ n, Kd.C (Kd.int .i64) ((w.alloc o).drewN n) A1 x.f2.length x.f2 := fun n => Kd.C_below hX (pw_below_drewN (below_alloc hB o) n)
  have HX2 : ∀ n, Kd.C (Kd.int .i64) ((w.alloc o).drewN n) A2 (rd_T38 l (lastOf l bar : Int)).f2.length (rd_T38 l (lastOf l bar : Int)).f2 := fun n => Kd.C_below hC2 (pw_below_drewN (below_alloc hB o) n)
  have H1 := Aside0.mk HX1
  have H2 := Aside0.mk HX2
  have HN1 := Aside0.mk hx
  have HN2 := Aside0.mk hl2
  clear hcall HX1 HX2 hX hC2 hx hl2
  subst ho
  have HBB := Aside0.mk hB
  obtain ⟨A0, c0, HG, hg, HC⟩ := hI
  have e5 : w.cell? ⟨g, 5, none⟩ = some (.int .i64 pass) := (blk_cell HG 5).trans rfl
  have e8 : w.cell? ⟨g, 8, none⟩ = some (.int .i64 jump) := (blk_cell HG 8).trans rfl
  have hlt := lt_of_block HG
  clear HG hg HC hB
  unfold stO at h
  by_cases hn : x.f2.length = 0
  · rw [if_pos hn] at h
    obtain rfl := Option.some.inj h
    have hn1 : ((x.f2.length : Int) == 0) = true := beq_iff_eq.mpr (by omega)
    have hn2 : (x.f2.length == 0) = true := beq_iff_eq.mpr hn
    clear hn h HL H1 H2
    go_enter Try.func48, Try.ntmps48
    go_wp2
    go_ret
    exact ⟨rfl, below_alloc (Below.refl _ _) _⟩
  · rw [if_neg hn] at h
    have hn1 : ((x.f2.length : Int) == 0) = false := beq_eq_false_iff_ne.mpr (by omega)
    have hn2 : (x.f2.length == 0) = false := beq_eq_false_iff_ne.mpr hn
    clear hn
    by_cases hj : jump = 0
    · rw [if_pos hj] at h
      have HH := Aside0.mk h
      rw [hj] at e8
      clear h hj HL H2
      go_enter Try.func48, Try.ntmps48
      go_wp2
      go_quiet ((first | (go_at_call 54; exact quiet_d (slices_Contains_int_int.calls k A1 c1 x.f2 pass b _ (H1.out _) HN1.out HH.out))))
      go_wp2
      go_ret
      exact ⟨rfl, pw_below_drewN (below_alloc (Below.refl _ _) _) _⟩
    · rw [if_neg hj] at h
      have HH := Aside0.mk h
      have hj1 : (jump != 0) = true := bne_iff_ne.mpr hj
      clear h hj
      go_enter Try.func48, Try.ntmps48
      go_wp2
      go_quiet ((first | (go_at_call 53; exact Calls.quiet_of_same (HL.out _)) | (go_at_call 52; exact quiet_d (slices_Equal_int_int.calls k A1 c1 x.f2 A2 c2 _ b _ (H1.out _) HN1.out (H2.out _) HN2.out HH.out))))
      go_wp2
      go_ret
      exact ⟨rfl, pw_below_drewN (below_alloc (Below.refl _ _) _) _⟩
end Go.Proofs.Ytendmmagjjhfnaa.M
