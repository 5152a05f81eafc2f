/- What a loop that collects bars and passes knows of its two rows. -/
import Derived.Test.YtendmmagjjhfnaaG7
namespace Go.Proofs.Ytendmmagjjhfnaa.M
open Go.RowKit Go.Proofs.YtendmmagjjhfnaaW.PrintWords Go.Proofs.YtendmmagjjhfnaaW.PrintLast Go.Proofs.YtendmmagjjhfnaaW.PrintMore
set_option linter.unusedVariables false
set_option linter.unusedSimpArgs false

/-- Two rows of whole numbers, apart. -/
def RowsOf (n0 : Nat) (W : World) (v1 v2 : Value) (xs1 xs2 : List Value) : Prop :=
  W.ownsRow n0 3 1 v1 xs1.length xs1 ∧ W.ownsRow n0 3 1 v2 xs2.length xs2 ∧ (∀ k, v1.ownBlock = some k → v2.ownBlock ≠ some k)
/-- The three results' boxes. -/
def BoxesOf (n0 : Nat) (W : World) (v1 v2 : Value) (r : Int) : Prop := Boxed W n0 31 v1 ∧ Boxed W (n0 + 1) 31 v2 ∧ Boxed W (n0 + 1 + 1) 28 (.int .i64 r)
def IW (n0 : Nat) (V : World) (pre : List (Int × Int)) (W : World) : Prop :=
  ∃ v1 v2, BoxesOf n0 W v1 v2 0 ∧ RowsOf n0 W v1 v2 (nums .i64 (pre.map Prod.fst)) (nums .i64 (pre.map Prod.snd)) ∧ pre.length ≤ 2000 ∧ Below n0 V W
def IxW (n0 : Nat) (V : World) (W : World) : Prop := BoxesOf n0 W (.slice none 0 0) (.slice none 0 0) 101 ∧ Below n0 V W
def Rl (n0 : Nat) (W X : World) : Prop := KeepsOthers W X ∧ KpW n0 W X

theorem own_ge {w : World} {base : Nat} {e : TypeId} {size n : Nat} {v : Value} {xs : List Value} (h : w.ownsRow base e size v n xs) (k : Nat) (hk : v.ownBlock = some k) : base ≤ k ∧ ∃ cells, w.heap[k]? = some (.cells cells e (0, 0)) := by
  rcases h.2 with ⟨rfl, _⟩ | ⟨g, cap, cur, rfl, hg, hh, r⟩
  · simp [Value.ownBlock] at hk
  · have : g = k := by simpa [Value.ownBlock] using hk
    subst this
    exact ⟨hg, cur, hh⟩
theorem own_form {w : World} {base : Nat} {e : TypeId} {size n : Nat} {v : Value} {xs : List Value} (h : w.ownsRow base e size v n xs) : ∃ A cap, v = .slice A n cap := by
  rcases h.2 with ⟨rfl, rfl⟩ | ⟨g, cap, cur, rfl, _⟩
  · exact ⟨none, 0, rfl⟩
  · exact ⟨_, cap, rfl⟩
theorem boxes_keep {n0 : Nat} {W X : World} {v1 v2 : Value} {r : Int} (h : BoxesOf n0 W v1 v2 r) (hk : ∀ (i : Nat) (cs : Array Value) (t : TypeId) (fr : Nat × Nat), W.heap[i]? = some (.cells cs t fr) → t = 31 ∨ t = 28 → X.heap[i]? = W.heap[i]?) : BoxesOf n0 X v1 v2 r :=
  ⟨(hk _ _ _ _ h.1 (.inl rfl)).trans h.1, (hk _ _ _ _ h.2.1 (.inl rfl)).trans h.2.1, (hk _ _ _ _ h.2.2 (.inr rfl)).trans h.2.2⟩
theorem rows_keep {n0 : Nat} {W X : World} {v1 v2 : Value} {xs1 xs2 : List Value} (h : RowsOf n0 W v1 v2 xs1 xs2) (hk : ∀ (i : Nat) (cs : Array Value) (t : TypeId) (fr : Nat × Nat), W.heap[i]? = some (.cells cs t fr) → t = 3 → X.heap[i]? = W.heap[i]?) : RowsOf n0 X v1 v2 xs1 xs2 :=
  ⟨own_move h.1 fun k hk1 => by obtain ⟨_, c, hc⟩ := own_ge h.1 k hk1; exact hk _ _ _ _ hc rfl,
   own_move h.2.1 fun k hk1 => by obtain ⟨_, c, hc⟩ := own_ge h.2.1 k hk1; exact hk _ _ _ _ hc rfl, h.2.2⟩
theorem iw_keep {n0 : Nat} {V : World} {pre : List (Int × Int)} {A B : World} (h : IW n0 V pre A) (hb : Below n0 A B) (hk : ∀ (i : Nat) (cs : Array Value) (t : TypeId) (fr : Nat × Nat), A.heap[i]? = some (.cells cs t fr) → t = 31 ∨ t = 28 ∨ t = 3 → B.heap[i]? = A.heap[i]?) : IW n0 V pre B := by
  obtain ⟨v1, v2, h1, h2, h3, h4⟩ := h
  exact ⟨v1, v2, boxes_keep h1 (fun i cs t fr hi ht => hk i cs t fr hi (by rcases ht with h | h; exact .inl h; exact .inr (.inl h))), rows_keep h2 (fun i cs t fr hi ht => hk i cs t fr hi (.inr (.inr ht))), h3, h4.trans hb⟩
theorem iw_a {n0 : Nat} {V : World} (hn : n0 ≤ V.heap.size) (pre : List (Int × Int)) (A B : World) (h : IW n0 V pre A) (hb : Below A.heap.size A B) : IW n0 V pre B :=
  iw_keep h (hb.mono (by obtain ⟨_, _, _, _, _, h4⟩ := h; exact Nat.le_trans hn h4.size)) fun i cs t fr hi _ => hb.block i (lt_of_block hi)
theorem iw_g {n0 : Nat} {V : World} (pre : List (Int × Int)) (A B : World) (g : Nat) (cs : Array Value) (fr : Nat × Nat) (h : IW n0 V pre A) (hg : A.heap[g]? = some (.cells cs 71 fr)) (hk : KeepBut A B g none) (hb : Below n0 A B) : IW n0 V pre B :=
  iw_keep h hb fun i cs' t fr' hi ht => hk.2 i (lt_of_block hi) (fun e => by subst e; rw [hg] at hi; cases hi; rcases ht with h | h | h <;> cases h) (by simp)
theorem iw_p {n0 : Nat} {V : World} (pre : List (Int × Int)) (A : World) (L : Nat) (o o' : Obj) (h : IW n0 V pre A) (hL : A.heap[L]? = some o) (ho : o.isCells = false) (hn : n0 ≤ L) : IW n0 V pre (A.putObj L o') :=
  iw_keep h (putObj_below hn) fun i cs t fr hi _ => World.putObj_heap_other (fun e => by subst e; rw [hL] at hi; cases hi; cases ho)
theorem ixw_p {n0 : Nat} {V : World} (A : World) (L : Nat) (o o' : Obj) (h : IxW n0 V A) (hL : A.heap[L]? = some o) (ho : o.isCells = false) (hn : n0 ≤ L) : IxW n0 V (A.putObj L o') :=
  ⟨boxes_keep h.1 (fun i cs t fr hi _ => World.putObj_heap_other (fun e => by subst e; rw [hL] at hi; cases hi; cases ho)), h.2.trans (putObj_below hn)⟩

theorem Rl.refl (n0 : Nat) (W : World) : Rl n0 W W := ⟨KeepsOthers.refl W, KpW.refl n0 W⟩
theorem Rl.trans {n0 : Nat} {A B C : World} (h : Rl n0 A B) (k : Rl n0 B C) : Rl n0 A C := ⟨h.1.trans k.1, h.2.trans k.2⟩
theorem rl_alloc {n0 : Nat} (W : World) (o : Obj) (hn : n0 ≤ W.heap.size) : Rl n0 W (W.alloc o) :=
  ⟨KeepsOthers.alloc W o, by simp, fun i cs t fr hi _ _ => Below.heap_alloc _ _ _ (lt_of_block hi), ((Below.refl n0 W).alloc hn o)⟩
theorem rl_drew {n0 : Nat} (W : World) : Rl n0 W W.drew := ⟨KeepsOthers.drew W, Nat.le_refl _, fun _ _ _ _ _ _ _ => rfl, (Below.refl n0 W).drew⟩
theorem rl_set {n0 B : Nat} {W : World} {u : Value} (v : Value) (hB : Boxed W B 31 u) (hn : n0 ≤ B) : Rl n0 W (W.setCell ⟨B, 0, none⟩ v) :=
  ⟨KeepsOthers.setCell _ _ _, by simp [World.setCell], fun i cs t fr hi _ h31 => Below.heap_setCell _ _ _ _ (fun e => by subst e; rw [show W.heap[i]? = _ from hB] at hi; cases hi; exact h31 rfl), (Below.refl n0 W).setCell (p := ⟨B, 0, none⟩) hn v⟩
theorem rl_set28 {n0 B : Nat} {W : World} {u : Value} (v : Value) (hB : Boxed W B 31 u) (hn : n0 ≤ B) : KeepsOthers W (W.setCell ⟨B, 0, none⟩ v) := KeepsOthers.setCell _ _ _
theorem rl_grown {n0 n : Nat} {W X : World} {v : Value} {xs : List Value} (ho : W.ownsRow n0 3 1 v n xs) (hg : W.grownBy X v.ownBlock) (hn : n0 ≤ W.heap.size) : Rl n0 W X := by
  refine ⟨KeepsOthers.of_grownBy hg fun j o ej hj => ?_, hg.size, fun i cs t fr hi h3 _ => hg.block i (lt_of_block hi) (fun e => ?_), hg.os, hg.tape, hg.output, hg.size, fun k hk => hg.block k (by omega) (fun e => ?_)⟩
  · obtain ⟨_, c, hc⟩ := own_ge ho j ej
    rw [hc] at hj; cases hj; rfl
  · obtain ⟨_, c, hc⟩ := own_ge ho i e.symm
    rw [hc] at hi; cases hi; exact h3 rfl
  · obtain ⟨hb, _⟩ := own_ge ho k e.symm
    omega
/-- What was a block of cells of another row is as it was. -/
theorem grown_blk {W X : World} {v : Value} (hg : W.grownBy X v.ownBlock) {i : Nat} {o : Obj} (h : W.heap[i]? = some o) (hne : v.ownBlock ≠ some i) : X.heap[i]? = some o :=
  (hg.block i (lt_of_block h) (fun e => hne e.symm)).trans h
theorem boxes_grown {n0 n : Nat} {W X : World} {v v1 v2 : Value} {xs : List Value} {r : Int} (h : BoxesOf n0 W v1 v2 r) (ho : W.ownsRow n0 3 1 v n xs) (hg : W.grownBy X v.ownBlock) : BoxesOf n0 X v1 v2 r :=
  boxes_keep h fun i cs t fr hi ht => hg.block i (lt_of_block hi) (fun e => by obtain ⟨_, c, hc⟩ := own_ge ho i e.symm; rw [hc] at hi; cases hi; rcases ht with h | h <;> cases h)
theorem own_grown {n0 m : Nat} {W X : World} {v v' : Value} {ys : List Value} (h : W.ownsRow n0 3 1 v' m ys) (hg : W.grownBy X v.ownBlock) (hne : ∀ k, v.ownBlock = some k → v'.ownBlock ≠ some k) : X.ownsRow n0 3 1 v' m ys :=
  own_move h fun k hk => by obtain ⟨_, c, hc⟩ := own_ge h k hk; exact hg.block k (lt_of_block hc) (fun e => hne k e.symm hk)
theorem nums_snoc (xs : List Int) (x : Int) : nums .i64 (xs ++ [x]) = nums .i64 xs ++ [.int .i64 x] := by simp [nums]
theorem nums_len (xs : List Int) : (nums .i64 xs).length = xs.length := by simp [nums]
theorem boxes_alloc {n0 : Nat} {W : World} {v1 v2 : Value} {r : Int} (h : BoxesOf n0 W v1 v2 r) (o : Obj) : BoxesOf n0 (W.alloc o) v1 v2 r := ⟨h.1.alloc o, h.2.1.alloc o, h.2.2.alloc o⟩
theorem own_alloc {n0 n : Nat} {W : World} {v : Value} {xs : List Value} (h : W.ownsRow n0 3 1 v n xs) (o : Obj) : (W.alloc o).ownsRow n0 3 1 v n xs :=
  own_move h fun k hk => by obtain ⟨_, c, hc⟩ := own_ge h k hk; exact Below.heap_alloc _ _ _ (lt_of_block hc)
theorem size_alloc1 {n0 : Nat} {W : World} {o : Obj} (h : n0 ≤ W.heap.size) : n0 ≤ (W.drew.alloc o).heap.size := by simp; omega
theorem size_alloc2 {n0 : Nat} {W : World} {o o' : Obj} (h : n0 ≤ W.heap.size) : n0 ≤ ((W.drew.alloc o).alloc o').heap.size := by simp; omega
theorem blk_new2 (W : World) (o o' : Obj) : ((W.alloc o).alloc o').heap[W.heap.size + 1]? = some o' := by
  have := heap_alloc_new (W.alloc o) o'
  rwa [World.size_alloc] at this
/-- What is known when the first row has grown, and what is to be appended to the second one lies. -/
def Aft (n0 : Nat) (W : World) (v1 v2 : Value) (xs1 xs2 : List Value) (m1 m2 : Nat) (p : Int) (s : Nat × Value × Nat) (X : World) : Prop :=
  BoxesOf n0 X v1 v2 0 ∧ X.ownsRow n0 3 1 s.2.1 m1 xs1 ∧ X.ownsRow n0 3 1 v2 m2 xs2 ∧ (∀ k, s.2.1.ownBlock = some k → v2.ownBlock ≠ some k) ∧
    X.heap[s.2.2]? = some (.cells #[.int .i64 p] 3 (0, 0)) ∧ s.2.1.ownBlock ≠ some s.2.2 ∧ v2.ownBlock ≠ some s.2.2 ∧ n0 ≤ s.2.2 ∧ Rl n0 W X ∧ W.heap.size ≤ X.heap.size ∧ (∃ gg cap, s.2.1 = .slice (some ⟨gg, 0, none⟩) m1 cap)
theorem app1 {n0 n m gg : Nat} {X0 X1 : World} {v1 v2 : Value} {xs1 xs2 : List Value} (hB : BoxesOf n0 X0 v1 v2 0) (h1 : X0.ownsRow n0 3 1 v1 n xs1) (h2 : X0.ownsRow n0 3 1 v2 m xs2) (hd : ∀ k, v1.ownBlock = some k → v2.ownBlock ≠ some k) (hn : n0 ≤ X0.heap.size)
    (hg : X0.grownBy X1 v1.ownBlock) (hat : v1.ownBlock = some gg ∨ gg = X0.heap.size) :
    BoxesOf n0 X1 v1 v2 0 ∧ X1.ownsRow n0 3 1 v2 m xs2 ∧ v2.ownBlock ≠ some gg ∧ Rl n0 X0 X1 ∧ (∀ (i : Nat) (o : Obj), X0.heap[i]? = some o → v1.ownBlock ≠ some i → X1.heap[i]? = some o ∧ gg ≠ i) := by
  refine ⟨boxes_grown hB h1 hg, own_grown h2 hg hd, ?_, rl_grown h1 hg hn, fun i o hi hne => ⟨grown_blk hg hi hne, ?_⟩⟩
  · rcases hat with h | h
    · exact hd gg h
    · intro e
      obtain ⟨_, c, hc⟩ := own_ge h2 gg e
      have := lt_of_block hc
      omega
  · rintro rfl
    rcases hat with h | h
    · exact hne h
    · have := lt_of_block hi
      omega
theorem own_lt {n0 n : Nat} {W : World} {v : Value} {xs : List Value} (h : W.ownsRow n0 3 1 v n xs) {k : Nat} (hk : W.heap.size ≤ k) : v.ownBlock ≠ some k := by
  intro e
  obtain ⟨_, c, hc⟩ := own_ge h k e
  have := lt_of_block hc
  omega
section
variable {n0 n1 n2 gg cap A : Nat} {W X1 : World} {v1 v2 : Value} {xs1 xs2 : List Value} {b p : Int}
theorem aft1 (hB : BoxesOf n0 W v1 v2 0) (h1 : W.ownsRow n0 3 1 v1 n1 xs1) (h2 : W.ownsRow n0 3 1 v2 n2 xs2) (hd : ∀ k, v1.ownBlock = some k → v2.ownBlock ≠ some k) (hn : n0 ≤ W.heap.size)
    (ho : X1.ownsRow n0 3 1 (.slice (some ⟨gg, 0, none⟩) (n1 + 1) cap) (n1 + 1) (xs1 ++ [.int .i64 b])) (hg : (W.drew.alloc (.cells #[.int .i64 b] 3)).grownBy X1 v1.ownBlock) (hat : v1.ownBlock = some gg ∨ gg = (W.drew.alloc (.cells #[.int .i64 b] 3)).heap.size) :
    Aft n0 W v1 v2 (xs1 ++ [.int .i64 b]) xs2 (n1 + 1) n2 p (A, .slice (some ⟨gg, 0, none⟩) (n1 + 1) cap, X1.heap.size) (X1.alloc (.cells #[.int .i64 p] 3)) := by
  obtain ⟨a1, a2, a3, a4, a5⟩ := app1 (boxes_alloc (W := W.drew) hB _) (own_alloc (W := W.drew) h1 _) (own_alloc (W := W.drew) h2 _) hd (size_alloc1 hn) hg hat
  have hs := hg.size
  rw [World.size_alloc] at hs
  have hs' : W.heap.size + 1 ≤ X1.heap.size := hs
  refine ⟨boxes_alloc a1 _, own_alloc ho _, own_alloc a2 _, ?_, heap_alloc_new _ _, own_lt ho (Nat.le_refl _), own_lt a2 (Nat.le_refl _), (show n0 ≤ X1.heap.size by omega), ?_, by simp; omega, _, _, rfl⟩
  · intro k hk e
    simp [Value.ownBlock] at hk
    subst hk
    exact a3 e
  · exact (((rl_drew W).trans (rl_alloc W.drew _ hn)).trans a4).trans (rl_alloc _ _ (by omega))
theorem aft2 (hB : BoxesOf n0 W v1 v2 0) (h1 : W.ownsRow n0 3 1 v1 n1 xs1) (h2 : W.ownsRow n0 3 1 v2 n2 xs2) (hd : ∀ k, v1.ownBlock = some k → v2.ownBlock ≠ some k) (hn : n0 ≤ W.heap.size)
    (ho : X1.ownsRow n0 3 1 (.slice (some ⟨gg, 0, none⟩) (n1 + 1) cap) (n1 + 1) (xs1 ++ [.int .i64 b])) (hg : ((W.drew.alloc (.cells #[.int .i64 b] 3)).alloc (.cells #[.int .i64 p] 3)).grownBy X1 v1.ownBlock) (hat : v1.ownBlock = some gg ∨ gg = ((W.drew.alloc (.cells #[.int .i64 b] 3)).alloc (.cells #[.int .i64 p] 3)).heap.size) :
    Aft n0 W v1 v2 (xs1 ++ [.int .i64 b]) xs2 (n1 + 1) n2 p (A, .slice (some ⟨gg, 0, none⟩) (n1 + 1) cap, W.heap.size + 1) X1 := by
  obtain ⟨a1, a2, a3, a4, a5⟩ := app1 (boxes_alloc (boxes_alloc (W := W.drew) hB _) _) (own_alloc (own_alloc (W := W.drew) h1 _) _) (own_alloc (own_alloc (W := W.drew) h2 _) _) hd (size_alloc2 hn) hg hat
  have hs := hg.size
  rw [World.size_alloc, World.size_alloc] at hs
  have hs' : W.heap.size + 1 + 1 ≤ X1.heap.size := hs
  have hq : v1.ownBlock ≠ some (W.heap.size + 1) := own_lt h1 (by omega)
  obtain ⟨b1, b2⟩ := a5 (W.heap.size + 1) _ (blk_new2 W.drew _ _) hq
  refine ⟨a1, ho, a2, ?_, b1, ?_, own_lt h2 (show W.heap.size ≤ W.heap.size + 1 by omega), (show n0 ≤ W.heap.size + 1 by omega), ?_, by omega, _, _, rfl⟩
  · intro k hk e
    simp [Value.ownBlock] at hk
    subst hk
    exact a3 e
  · simpa [Value.ownBlock] using b2
  · exact ((((rl_drew W).trans (rl_alloc W.drew _ hn)).trans (rl_alloc _ _ (size_alloc1 hn))).trans a4)
theorem aft3 (hB : BoxesOf n0 W v1 v2 0) (h1 : W.ownsRow n0 3 1 v1 n1 xs1) (h2 : W.ownsRow n0 3 1 v2 n2 xs2) (hd : ∀ k, v1.ownBlock = some k → v2.ownBlock ≠ some k) (hn : n0 ≤ W.heap.size)
    (ho : X1.ownsRow n0 3 1 (.slice (some ⟨gg, 0, none⟩) (n1 + 1) cap) (n1 + 1) (xs1 ++ [.int .i64 b])) (hg : ((W.drew.alloc (.cells #[.int .i64 p] 3)).alloc (.cells #[.int .i64 b] 3)).grownBy X1 v1.ownBlock) (hat : v1.ownBlock = some gg ∨ gg = ((W.drew.alloc (.cells #[.int .i64 p] 3)).alloc (.cells #[.int .i64 b] 3)).heap.size) :
    Aft n0 W v1 v2 (xs1 ++ [.int .i64 b]) xs2 (n1 + 1) n2 p (A, .slice (some ⟨gg, 0, none⟩) (n1 + 1) cap, W.heap.size) X1 := by
  obtain ⟨a1, a2, a3, a4, a5⟩ := app1 (boxes_alloc (boxes_alloc (W := W.drew) hB _) _) (own_alloc (own_alloc (W := W.drew) h1 _) _) (own_alloc (own_alloc (W := W.drew) h2 _) _) hd (size_alloc2 hn) hg hat
  have hs := hg.size
  rw [World.size_alloc, World.size_alloc] at hs
  have hs' : W.heap.size + 1 + 1 ≤ X1.heap.size := hs
  have hq : v1.ownBlock ≠ some W.heap.size := own_lt h1 (Nat.le_refl _)
  obtain ⟨b1, b2⟩ := a5 W.heap.size _ ((Below.heap_alloc _ _ _ (by simp)).trans (heap_alloc_new W.drew _)) hq
  refine ⟨a1, ho, a2, ?_, b1, ?_, own_lt h2 (Nat.le_refl _), hn, ?_, by omega, _, _, rfl⟩
  · intro k hk e
    simp [Value.ownBlock] at hk
    subst hk
    exact a3 e
  · simpa [Value.ownBlock] using b2
  · exact ((((rl_drew W).trans (rl_alloc W.drew _ hn)).trans (rl_alloc _ _ (size_alloc1 hn))).trans a4)
/-- Both rows have grown. -/
theorem fin9 {m1 gg2 cap2 : Nat} {X X2 : World} {s : Nat × Value × Nat} {zs1 : List Value} (h : Aft n0 W v1 v2 zs1 xs2 m1 n2 p s X) (ho : X2.ownsRow n0 3 1 (.slice (some ⟨gg2, 0, none⟩) (n2 + 1) cap2) (n2 + 1) (xs2 ++ [.int .i64 p])) (hg : X.grownBy X2 v2.ownBlock) (hat : v2.ownBlock = some gg2 ∨ gg2 = X.heap.size) :
    BoxesOf n0 X2 v1 v2 0 ∧ X2.ownsRow n0 3 1 s.2.1 m1 zs1 ∧ X2.ownsRow n0 3 1 (.slice (some ⟨gg2, 0, none⟩) (n2 + 1) cap2) (n2 + 1) (xs2 ++ [.int .i64 p]) ∧ s.2.1.ownBlock ≠ some gg2 ∧ Rl n0 W X2 := by
  obtain ⟨c1, c2, c3, c4, c5, c6, c7, c8, c9, c10, _⟩ := h
  refine ⟨boxes_grown c1 c3 hg, own_grown c2 hg (fun k hk e => c4 k e hk), ho, ?_, c9.trans (rl_grown c3 hg (Nat.le_trans c8 (Nat.le_of_lt (lt_of_block c5))))⟩
  rcases hat with h | h
  · intro e
    exact c4 gg2 e h
  · exact own_lt c2 (by omega)
end
/-- Behind the two stores. -/
theorem fin10 {n0 gg2 cap2 : Nat} {V W X2 : World} {v1 v2 u1 : Value} {pre : List (Int × Int)} {b p : Int} (hn : n0 ≤ X2.heap.size)
    (h : BoxesOf n0 X2 v1 v2 0 ∧ X2.ownsRow n0 3 1 u1 (pre.length + 1) (nums .i64 (pre.map Prod.fst) ++ [.int .i64 b]) ∧ X2.ownsRow n0 3 1 (.slice (some ⟨gg2, 0, none⟩) (pre.length + 1) cap2) (pre.length + 1) (nums .i64 (pre.map Prod.snd) ++ [.int .i64 p]) ∧ u1.ownBlock ≠ some gg2 ∧ Rl n0 W X2)
    (hV : Below n0 V W) (hl : pre.length < 2000) :
    Rl n0 W ((X2.setCell ⟨n0, 0, none⟩ u1).setCell ⟨n0 + 1, 0, none⟩ (.slice (some ⟨gg2, 0, none⟩) (pre.length + 1) cap2)) ∧
      IW n0 V (pre ++ [(b, p)]) ((X2.setCell ⟨n0, 0, none⟩ u1).setCell ⟨n0 + 1, 0, none⟩ (.slice (some ⟨gg2, 0, none⟩) (pre.length + 1) cap2)) := by
  obtain ⟨h1, h2, h3, h4, h5⟩ := h
  have r1 : Rl n0 X2 (X2.setCell ⟨n0, 0, none⟩ u1) := rl_set u1 h1.1 (Nat.le_refl _)
  have b1 : Boxed (X2.setCell ⟨n0, 0, none⟩ u1) (n0 + 1) 31 v2 := h1.2.1.other (by omega) _
  have r2 := r1.trans (rl_set (.slice (some ⟨gg2, 0, none⟩) (pre.length + 1) cap2) b1 (by omega))
  refine ⟨h5.trans r2, u1, .slice (some ⟨gg2, 0, none⟩) (pre.length + 1) cap2, ⟨(h1.1.set u1).other (by omega) _, b1.set _, (h1.2.2.other (by omega) _).other (by omega) _⟩, ?_, by simp; omega, (hV.trans h5.2.2.2).trans r2.2.2.2⟩
  have mv : ∀ i : Nat, (∃ cells : Array Value, X2.heap[i]? = some (Obj.cells cells 3 (0, 0))) → ((X2.setCell ⟨n0, 0, none⟩ u1).setCell ⟨n0 + 1, 0, none⟩ (.slice (some ⟨gg2, 0, none⟩) (pre.length + 1) cap2)).heap[i]? = X2.heap[i]? := by
    rintro i ⟨cells, hc⟩
    refine (Below.heap_setCell _ _ _ _ (fun e => ?_)).trans (Below.heap_setCell _ _ _ _ (fun e => ?_))
    · rw [show i = n0 + 1 from e, show X2.heap[n0 + 1]? = _ from h1.2.1] at hc; cases hc
    · rw [show i = n0 from e, show X2.heap[n0]? = _ from h1.1] at hc; cases hc
  refine ⟨?_, ?_, fun k hk e => ?_⟩
  · have := own_move h2 (fun k hk => mv k (own_ge h2 k hk).2)
    simpa [nums] using this
  · have := own_move h3 (fun k hk => mv k (own_ge h3 k hk).2)
    simpa [nums] using this
  · simp [Value.ownBlock] at e
    subst e
    exact h4 hk
theorem done10 {n0 : Nat} {V W : World} {v1 v2 : Value} {xs1 xs2 : List Value} {r : Int} (hB : BoxesOf n0 W v1 v2 r) (hR : RowsOf n0 W v1 v2 xs1 xs2) (hV : Below n0 V W) :
    BoxesOf n0 ((((W.setCell ⟨n0, 0, none⟩ v1).setCell ⟨n0 + 1, 0, none⟩ v2).setCell ⟨n0 + 1 + 1, 0, none⟩ (.int .i64 0)).drew) v1 v2 0 ∧
      RowsOf n0 ((((W.setCell ⟨n0, 0, none⟩ v1).setCell ⟨n0 + 1, 0, none⟩ v2).setCell ⟨n0 + 1 + 1, 0, none⟩ (.int .i64 0)).drew) v1 v2 xs1 xs2 ∧
      KeepsOthers W ((((W.setCell ⟨n0, 0, none⟩ v1).setCell ⟨n0 + 1, 0, none⟩ v2).setCell ⟨n0 + 1 + 1, 0, none⟩ (.int .i64 0)).drew) ∧
      Below n0 V ((((W.setCell ⟨n0, 0, none⟩ v1).setCell ⟨n0 + 1, 0, none⟩ v2).setCell ⟨n0 + 1 + 1, 0, none⟩ (.int .i64 0)).drew) := by
  refine ⟨⟨((hB.1.set v1).other (by omega) v2).other (by omega) _, ((hB.2.1.other (by omega) v1).set v2).other (by omega) _, ((hB.2.2.other (by omega) v1).other (by omega) v2).set _⟩, ?_, ?_, ?_⟩
  · refine rows_keep hR fun i cs t fr hi ht => ?_
    subst ht
    refine (Below.heap_setCell _ _ _ _ (fun e => ?_)).trans ((Below.heap_setCell _ _ _ _ (fun e => ?_)).trans (Below.heap_setCell _ _ _ _ (fun e => ?_)))
    · rw [show i = n0 + 1 + 1 from e, show W.heap[n0 + 1 + 1]? = _ from hB.2.2] at hi; cases hi
    · rw [show i = n0 + 1 from e, show W.heap[n0 + 1]? = _ from hB.2.1] at hi; cases hi
    · rw [show i = n0 from e, show W.heap[n0]? = _ from hB.1] at hi; cases hi
  · exact (((KeepsOthers.setCell _ _ _).trans (KeepsOthers.setCell _ _ _)).trans (KeepsOthers.setCell _ _ _)).trans (KeepsOthers.drew _)
  · exact (((hV.setCell (p := ⟨n0, 0, none⟩) (Nat.le_refl _) v1).setCell (p := ⟨n0 + 1, 0, none⟩) (by simp) v2).setCell (p := ⟨n0 + 1 + 1, 0, none⟩) (by simp; omega) _).drew
theorem boxes_putObj {n0 D : Nat} {W : World} {v1 v2 : Value} {r : Int} {o : Obj} (o' : Obj) (h : BoxesOf n0 W v1 v2 r) (hD : W.heap[D]? = some o) (ho : o.isCells = false) : BoxesOf n0 (W.putObj D o') v1 v2 r :=
  boxes_keep h fun i cs t fr hi _ => World.putObj_heap_other (fun e => by subst e; rw [hD] at hi; cases hi; cases ho)
theorem rows_putObj {n0 D : Nat} {W : World} {v1 v2 : Value} {xs1 xs2 : List Value} {o : Obj} (o' : Obj) (h : RowsOf n0 W v1 v2 xs1 xs2) (hD : W.heap[D]? = some o) (ho : o.isCells = false) : RowsOf n0 (W.putObj D o') v1 v2 xs1 xs2 :=
  rows_keep h fun i cs t fr hi _ => World.putObj_heap_other (fun e => by subst e; rw [hD] at hi; cases hi; cases ho)
theorem rows_R {n0 : Nat} {W : World} {v1 v2 : Value} {ys zs : List Int} (h : RowsOf n0 W v1 v2 (nums .i64 ys) (nums .i64 zs)) :
    Kd.R (Kd.int .i64) 3 W n0 (fun k_ => some k_ ≠ v2.ownBlock) v1 ys ∧ Kd.R (Kd.int .i64) 3 W n0 (fun k_ => some k_ ≠ v1.ownBlock) v2 zs := by
  obtain ⟨h1, h2, h3⟩ := h
  rw [nums_len] at h1 h2
  exact ⟨Kd.R_of_own (enc := Value.int .i64) (h1 := fun _ => rfl) h1 (fun k hk e => h3 k hk e.symm), Kd.R_of_own (enc := Value.int .i64) (h1 := fun _ => rfl) h2 (fun k hk e => h3 k e.symm hk)⟩
end Go.Proofs.Ytendmmagjjhfnaa.M
