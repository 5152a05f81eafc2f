/- The pure part of the statement TurnsPlain: bars that say nothing are played once, in order; with signs that nothing leads to, too. -/
import Derived.Test.YtendmmagjjhfnaaZ2
import Derived.Test.YtendmmagjjhfnaaM32
namespace Go.Proofs.Ytendmmagjjhfnaa.Z
open Go.RowKit Go.Proofs.YtendmmagjjhfnaaW.PrintWords Go.Proofs.YtendmmagjjhfnaaW.PrintLast Go.Proofs.Ytendmmagjjhfnaa.M
set_option linter.unusedVariables false
set_option linter.unusedSimpArgs false

theorem plain_l0 (a0 : Int) (h0 : 0 ≤ a0) (h1 : a0 < 256) (l : List S38) (n : Nat) (hn : n ≤ 1000) (hl : l.length = n) (m : Nat) (hm : (m : Int) = a0 % 100) : ∀ (d i : Nat), d + i = n →
    Ev (fun k => partitalaw10_TurnsPlain.l0 k a0 true l (upTo 0 n) 0 (List.replicate n 1) 0 (upTo 0 m) 0 (i : Int)) true
  | 0, i, h => by
    have e : wrap64 (Int.tmod a0 100) = (m : Int) := by rw [Int.tmod_eq_emod_of_nonneg h0, w64 (by omega) (by omega)]; omega
    have hr1 := rising_ev (a := 0) (b := (l.length : Int)) 0 n rfl (by omega) (by omega)
    have hr2 := rising_ev (a := 0) (b := wrap64 (Int.tmod a0 100)) 0 m rfl (by rw [e]; omega) (by rw [e]; omega)
    refine Ev.step (fun k => rfl) (Ev.no (by simp; omega) (Ev.yes rfl (Ev.yes rfl (Ev.bind hr1 (Ev.bind (ints_same rfl (by rw [upTo_length]; omega)) (Ev.yes rfl (Ev.yes rfl (Ev.yes (by simp; omega) (Ev.yes rfl (Ev.bind hr2 (Ev.bind (ints_same rfl (by rw [upTo_length]; omega)) (Ev.now _))))))))))))
  | d + 1, i, h => by
    refine Ev.step (fun k => rfl) (Ev.yes (by simp; omega) (Ev.yes (by omega) (Ev.yes (rd_repl n i 1 (by omega)) ?_)))
    have e : wrap64 ((i : Int) + 1) = ((i + 1 : Nat) : Int) := by rw [w64 (by omega) (by omega)]; omega
    rw [e]
    exact plain_l0 a0 h0 h1 l n hn hl m hm d (i + 1) (by omega)

/-- What is known of bars that say nothing, some of which bear signs. -/
structure Signs (n A C : Nat) (l : List S38) : Prop where
  len : l.length = n
  all : AllOf PlainB l
  sign : At (fun x => x.f3) A l
  coda : At (fun x => x.f4) C l
theorem Signs.told {n A C : Nat} {l : List S38} (h : Signs n A C l) (hn : n ≤ 1000) : Ev (fun k => turns_walk.f k l) (upTo 0 n, List.replicate n 1, 0) := by
  have hw := walk_ev (by rw [h.len]; omega) (plain_short h.all) (plain_chk h.all h.sign h.coda) (run_all_plain h.all)
  refine Ev.ok hw ?_
  unfold Z.told
  rw [if_pos (by simp [upTo_length, h.len]; omega), map_fst_pair, map_snd_pair, upTo_length, h.len]
theorem signs_many (n A C : Nat) : Signs n A C (List.replicate n z38) :=
  ⟨by simp, fun i hi => by rw [rd_replicate]; exact ⟨rfl, rfl, rfl, rfl⟩, at_replicate rfl _ _, at_replicate rfl _ _⟩
theorem ix {x : Int} {n : Nat} (h0 : 0 ≤ x) (hn : 0 < n) : 0 ≤ Int.tmod x (n : Int) ∧ Int.tmod x (n : Int) < (n : Int) := by
  rw [Int.tmod_eq_emod_of_nonneg h0]
  exact ⟨Int.emod_nonneg _ (by omega), Int.emod_lt_of_pos _ (by omega)⟩
set_option maxHeartbeats 1000000 in
theorem turnsPlain (a0 a1 a2 : Int) (h0 : 0 ≤ a0 ∧ a0 < 256) (h1 : 0 ≤ a1 ∧ a1 < 256) (h2 : 0 ≤ a2 ∧ a2 < 256) : Ev (fun k => partitalaw10_TurnsPlain.f k a0 a1 a2) true := by
  obtain ⟨m, hm⟩ : ∃ m : Nat, (m : Int) = a0 % 100 := ⟨(a0 % 100).toNat, by omega⟩
  have e1 : wrap64 (Int.tmod a0 100) = (m : Int) := by rw [Int.tmod_eq_emod_of_nonneg h0.1, w64 (by omega) (by omega)]; omega
  have e2 : wrap64 (1 + (m : Int)) = ((m + 1 : Nat) : Int) := by rw [w64 (by omega) (by omega)]; omega
  have w1 : wrap64 a1 = a1 := w64 (by omega) (by omega)
  have w2 : wrap64 a2 = a2 := w64 (by omega) (by omega)
  unfold partitalaw10_TurnsPlain.f
  refine Ev.bind examples_ev (Ev.yes rfl ?_)
  rw [e1, e2, w1, w2]
  refine Ev.bind (Ev.eq (many_f (by omega) (by omega))) ?_
  rw [Int.toNat_natCast]
  have hlen : ((List.replicate (m + 1) z38).length : Int) = ((m + 1 : Nat) : Int) := by simp
  simp only [hlen]
  obtain ⟨i1, hi1⟩ : ∃ i : Nat, (i : Int) = Int.tmod a1 ((m + 1 : Nat) : Int) := ⟨_, Int.toNat_of_nonneg (ix (n := m + 1) h1.1 (by omega)).1⟩
  obtain ⟨i2, hi2⟩ : ∃ i : Nat, (i : Int) = Int.tmod a2 ((m + 1 : Nat) : Int) := ⟨_, Int.toNat_of_nonneg (ix (n := m + 1) h2.1 (by omega)).1⟩
  have g1 := ix (x := a1) (n := m + 1) h1.1 (by omega)
  have g2 := ix (x := a2) (n := m + 1) h2.1 (by omega)
  obtain ⟨i3, hi3⟩ : ∃ i : Nat, (i : Int) = (Int.tdiv a1 2 % 256) % ((m + 1 : Nat) : Int) := ⟨_, Int.toNat_of_nonneg (Int.emod_nonneg _ (by omega))⟩
  obtain ⟨i4, hi4⟩ : ∃ i : Nat, (i : Int) = (Int.tdiv a2 2 % 256) % ((m + 1 : Nat) : Int) := ⟨_, Int.toNat_of_nonneg (Int.emod_nonneg _ (by omega))⟩
  have g3 : (Int.tdiv a1 2 % 256) % ((m + 1 : Nat) : Int) < ((m + 1 : Nat) : Int) := Int.emod_lt_of_pos _ (by omega)
  have g4 : (Int.tdiv a2 2 % 256) % ((m + 1 : Nat) : Int) < ((m + 1 : Nat) : Int) := Int.emod_lt_of_pos _ (by omega)
  rw [← hi1] at g1
  rw [← hi2] at g2
  rw [← hi3] at g3
  rw [← hi4] at g4
  simp only [← hi1, ← hi2, ← hi3, ← hi4, Int.toNat_natCast]
  refine Ev.no (by omega) (Ev.yes (by omega) (Ev.yes (by omega) (Ev.bind (Ev.now _) (Ev.yes (by omega) (Ev.yes (by omega) (Ev.bind (Ev.now _) (Ev.yes (by omega) (Ev.yes (by omega) (Ev.bind (Ev.now _) (Ev.yes (by omega) (Ev.yes (by omega) (Ev.bind (Ev.now _) ?_))))))))))))
  have s0 := signs_many (m + 1) i3 i4
  have s1 : Signs (m + 1) i3 i4 _ := ⟨by rw [List.length_set]; exact s0.len, allOf_set (i := i1) (v := ⟨(rd_T38 (List.replicate (m + 1) z38) (i1 : Int)).f0, (rd_T38 (List.replicate (m + 1) z38) (i1 : Int)).f1, (rd_T38 (List.replicate (m + 1) z38) (i1 : Int)).f2, (rd_T38 (List.replicate (m + 1) z38) (i1 : Int)).f3, (rd_T38 (List.replicate (m + 1) z38) (i1 : Int)).f4, (rd_T38 (List.replicate (m + 1) z38) (i1 : Int)).f5, true, (rd_T38 (List.replicate (m + 1) z38) (i1 : Int)).f7⟩) s0.all (by rw [s0.len]; omega) (s0.all i1 (by rw [s0.len]; omega)), at_set s0.sign (by rw [s0.len]; omega) (fun h => .inr h), at_set s0.coda (by rw [s0.len]; omega) (fun h => .inr h)⟩
  generalize (List.replicate (m + 1) z38).set i1 (⟨(rd_T38 (List.replicate (m + 1) z38) (i1 : Int)).f0, (rd_T38 (List.replicate (m + 1) z38) (i1 : Int)).f1, (rd_T38 (List.replicate (m + 1) z38) (i1 : Int)).f2, (rd_T38 (List.replicate (m + 1) z38) (i1 : Int)).f3, (rd_T38 (List.replicate (m + 1) z38) (i1 : Int)).f4, (rd_T38 (List.replicate (m + 1) z38) (i1 : Int)).f5, true, (rd_T38 (List.replicate (m + 1) z38) (i1 : Int)).f7⟩ : S38) = y1 at s1 ⊢
  have s2 : Signs (m + 1) i3 i4 _ := ⟨by rw [List.length_set]; exact s1.len, allOf_set (i := i2) (v := ⟨(rd_T38 y1 (i2 : Int)).f0, (rd_T38 y1 (i2 : Int)).f1, (rd_T38 y1 (i2 : Int)).f2, (rd_T38 y1 (i2 : Int)).f3, (rd_T38 y1 (i2 : Int)).f4, true, (rd_T38 y1 (i2 : Int)).f6, (rd_T38 y1 (i2 : Int)).f7⟩) s1.all (by rw [s1.len]; omega) (s1.all i2 (by rw [s1.len]; omega)), at_set s1.sign (by rw [s1.len]; omega) (fun h => .inr h), at_set s1.coda (by rw [s1.len]; omega) (fun h => .inr h)⟩
  generalize y1.set i2 (⟨(rd_T38 y1 (i2 : Int)).f0, (rd_T38 y1 (i2 : Int)).f1, (rd_T38 y1 (i2 : Int)).f2, (rd_T38 y1 (i2 : Int)).f3, (rd_T38 y1 (i2 : Int)).f4, true, (rd_T38 y1 (i2 : Int)).f6, (rd_T38 y1 (i2 : Int)).f7⟩ : S38) = y2 at s2 ⊢
  have s3 : Signs (m + 1) i3 i4 _ := ⟨by rw [List.length_set]; exact s2.len, allOf_set (i := i3) (v := ⟨(rd_T38 y2 (i3 : Int)).f0, (rd_T38 y2 (i3 : Int)).f1, (rd_T38 y2 (i3 : Int)).f2, true, (rd_T38 y2 (i3 : Int)).f4, (rd_T38 y2 (i3 : Int)).f5, (rd_T38 y2 (i3 : Int)).f6, (rd_T38 y2 (i3 : Int)).f7⟩) s2.all (by rw [s2.len]; omega) (s2.all i3 (by rw [s2.len]; omega)), at_set s2.sign (by rw [s2.len]; omega) (fun _ => .inl rfl), at_set s2.coda (by rw [s2.len]; omega) (fun h => .inr h)⟩
  generalize y2.set i3 (⟨(rd_T38 y2 (i3 : Int)).f0, (rd_T38 y2 (i3 : Int)).f1, (rd_T38 y2 (i3 : Int)).f2, true, (rd_T38 y2 (i3 : Int)).f4, (rd_T38 y2 (i3 : Int)).f5, (rd_T38 y2 (i3 : Int)).f6, (rd_T38 y2 (i3 : Int)).f7⟩ : S38) = y3 at s3 ⊢
  have s4 : Signs (m + 1) i3 i4 _ := ⟨by rw [List.length_set]; exact s3.len, allOf_set (i := i4) (v := ⟨(rd_T38 y3 (i4 : Int)).f0, (rd_T38 y3 (i4 : Int)).f1, (rd_T38 y3 (i4 : Int)).f2, (rd_T38 y3 (i4 : Int)).f3, true, (rd_T38 y3 (i4 : Int)).f5, (rd_T38 y3 (i4 : Int)).f6, (rd_T38 y3 (i4 : Int)).f7⟩) s3.all (by rw [s3.len]; omega) (s3.all i4 (by rw [s3.len]; omega)), at_set s3.sign (by rw [s3.len]; omega) (fun h => .inr h), at_set s3.coda (by rw [s3.len]; omega) (fun _ => .inl rfl)⟩
  generalize y3.set i4 (⟨(rd_T38 y3 (i4 : Int)).f0, (rd_T38 y3 (i4 : Int)).f1, (rd_T38 y3 (i4 : Int)).f2, (rd_T38 y3 (i4 : Int)).f3, true, (rd_T38 y3 (i4 : Int)).f5, (rd_T38 y3 (i4 : Int)).f6, (rd_T38 y3 (i4 : Int)).f7⟩ : S38) = y4 at s4 ⊢
  have hw := s4.told (by omega)
  refine Ev.bind (unfold_ev hw) (Ev.bind (passes_ev hw) (Ev.bind (Ev.eq (many_f (by omega) (by omega))) ?_))
  rw [Int.toNat_natCast]
  refine Ev.bind (unfold_ev ((signs_many m 0 0).told (by omega))) ?_
  exact plain_l0 a0 h0.1 h0.2 y4 (m + 1) (by omega) s4.len m hm (m + 1) 0 (by omega)
theorem u8_wf {a : Int} (h : (Lit.int .u8 a).wf = true) : 0 ≤ a ∧ a < 256 := by
  have e : IntKind.u8.min = 0 := rfl
  have e2 : IntKind.u8.max = 255 := rfl
  simp [Lit.wf] at h
  omega
theorem turnsPlain_pure : partitalaw10_TurnsPlain.Pure := by
  intro a0 a1 a2 h0 h1 h2
  have b0 : 0 ≤ a0 ∧ a0 < 256 := u8_wf h0
  have b1 : 0 ≤ a1 ∧ a1 < 256 := u8_wf h1
  have b2 : 0 ≤ a2 ∧ a2 < 256 := u8_wf h2
  exact Ev.rounds (turnsPlain a0 a1 a2 b0 b1 b2)
end Go.Proofs.Ytendmmagjjhfnaa.Z
