/- How arguments read: whole numbers, strings, bools, slices, structs, told as the printed functions tell them. No program. How turns by bytes read. -/
import Derived.Test.YtendmmagjjhfnaaWWords
import Derived.Deep.Slices
import Derived.Deep.Fields
import Derived.ChangeSame
import Derived.ChangeArms
import Derived.OpenShut
import Derived.Test.YtendmmagjjhfnaaM0
namespace Go.Proofs.Ytendmmagjjhfnaa.R
open Go.RowKit Go.Proofs.YtendmmagjjhfnaaW.PrintWords Go.ChangeShapes Go.WideShapes Go.Deep
section
variable {H : Type} (enc : TypeId × Value → H) (P : Program) (w : World)
/-- Whatever reads as data of this type is of this kind. -/
def Rds {α : Type} (t : TypeId) (d : Kd α) (Q : α → Prop) : Prop :=
  ∀ (fuel : Nat) (cs : List Value) (y : DataW H × List MemPlace), DataW.trod enc P w 0 (fun _ => true) true fuel t cs = some y → ∃ x, d.K w x cs ∧ Q x
variable {enc P w}
theorem rds_int {t : TypeId} {k : IntKind} (ht : P.underlying t = some (.int k)) : Rds enc P w t (Kd.int k) (fun n => (Lit.int k n).wf = true) := by
  intro fuel cs y h
  obtain ⟨n, hcs, _, hw⟩ := DataW.trod_int ht h
  exact ⟨n, hcs, hw⟩
theorem rds_string {t : TypeId} (ht : P.underlying t = some .string) : Rds enc P w t Kd.string (fun s => s.size ≤ maxLen) := by
  intro fuel cs y h
  obtain ⟨s, hcs, _, hw⟩ := DataW.trod_string ht h
  exact ⟨s, hcs, hw⟩
theorem rds_bool {t : TypeId} (ht : P.underlying t = some .bool) : Rds enc P w t Kd.bool (fun _ => True) := by
  intro fuel cs y h
  obtain ⟨b, hcs, _⟩ := DataW.trod_bool ht h
  exact ⟨b, hcs, trivial⟩
theorem list_of {α : Type} {Φ : Nat → α → Prop} : ∀ n : Nat, (∀ i, i < n → ∃ x, Φ i x) → ∃ xs : List α, xs.length = n ∧ ∀ i x, xs[i]? = some x → Φ i x
  | 0, _ => ⟨[], rfl, fun i x h => by simp at h⟩
  | n + 1, h => by
    obtain ⟨xs, hl, hx⟩ := list_of n (fun i hi => h i (by omega))
    obtain ⟨x, hn⟩ := h n (by omega)
    refine ⟨xs ++ [x], by simp [hl], fun i z hz => ?_⟩
    by_cases hi : i < n
    · rw [List.getElem?_append_left (by omega)] at hz
      exact hx i z hz
    · have hlt := (List.getElem?_eq_some_iff.1 hz).1
      rw [List.length_append, List.length_singleton] at hlt
      obtain rfl : i = n := by omega
      rw [List.getElem?_append_right (by omega), hl, Nat.sub_self] at hz
      simp at hz
      rw [← hz]
      exact hn
theorem rds_slice {α : Type} {t e : TypeId} {d : Kd α} {Q : α → Prop} (ht : P.underlying t = some (.slice e)) (hC : P.cellsOf e = d.sz) (hE : Rds enc P w e d Q) :
    Rds enc P w t (Kd.slice e d) (fun xs => ∀ x ∈ xs, Q x) := by
  intro fuel cs y h
  rcases open_slice ht h with ⟨rfl, _⟩ | ⟨a, len, cap, m, n, D, Pl, rfl, _, hl, hm, hmm, _, hel⟩
  · exact ⟨[], ⟨none, 0, rfl, Nat.le_refl _, rfl, Nat.zero_le _, fun h0 => absurd h0 (Nat.lt_irrefl _)⟩, fun x hx => by cases hx⟩
  · have hm' : len ≤ m := by rw [hmm]; simp; omega
    obtain ⟨xs, hxl, hx⟩ := list_of (Φ := fun i x => (∃ c, c.length = d.sz ∧ d.K w x c ∧ ∀ j u, c[j]? = some u → w.cell? (a.add (i * d.sz + j)) = some u) ∧ Q x) len (fun i hi => by
      obtain ⟨cs', hc, htr⟩ := hel i (by omega)
      obtain ⟨x, hK, hQ⟩ := hE n cs' _ htr
      obtain ⟨_, hcl, hat⟩ := World.cells?_some hc
      rw [hC] at hcl hat
      refine ⟨x, ⟨cs', hcl, hK, fun j u hu => ?_⟩, hQ⟩
      have hj : j < d.sz := by
        have := (List.getElem?_eq_some_iff.1 hu).1
        omega
      have := hat j hj
      rw [hu, Go.Deep.add_add] at this
      exact this)
    subst hxl
    refine ⟨xs, ⟨some a, cap, rfl, hl, rfl, by unfold maxLen at hm; omega, fun _ => ⟨a, rfl, fun j p hp => (hx j p hp).1⟩⟩, fun x hxm => ?_⟩
    obtain ⟨i, hi⟩ := List.getElem?_of_mem hxm
    exact (hx i x hi).2
/-- A field of one cell. -/
theorem field_one {fs : Array Field} {n : Nat} {cs : List Value} {xs : List (DataW H × List MemPlace)} (hone : oneCellFields P fs = true) (hx : xs.length = fs.size)
    (hf : ∀ (i : Nat) (f : Field), fs[i]? = some f → DataW.trod enc P w 0 (fun _ => true) true n f.type ((cs.drop f.offset).take (P.cellsOf f.type)) = xs[i]?) (i : Nat) (f : Field) (hi : fs[i]? = some f) :
    ∃ y, DataW.trod enc P w 0 (fun _ => true) true n f.type ((cs.drop i).take 1) = some y := by
  obtain ⟨ho, hk⟩ := hone_of hone i f hi
  have h1 := hf i f hi
  rw [ho, hk] at h1
  have hlt : i < xs.length := by rw [hx]; exact (Array.getElem?_eq_some_iff.1 hi).1
  exact ⟨_, h1.trans (List.getElem?_eq_getElem hlt)⟩
end
end Go.Proofs.Ytendmmagjjhfnaa.R
namespace Go.Proofs.Ytendmmagjjhfnaa.R
open Go.RowKit Go.Proofs.YtendmmagjjhfnaaW.PrintWords Go.ChangeShapes Go.WideShapes Go.Deep Go.Proofs.Ytendmmagjjhfnaa.M
set_option linter.unusedVariables false
/-- Three bytes. -/
def Byte3 (x : S46) : Prop := (Lit.int .u8 x.f0).wf = true ∧ (Lit.int .u8 x.f1).wf = true ∧ (Lit.int .u8 x.f2).wf = true
theorem rds_46 {H : Type} {enc : TypeId × Value → H} {w : World} : Rds enc Try.prog w 46 k46 Byte3 := by
  intro fuel cs y h
  obtain ⟨xs, n, _, _, hlen, hxl, hf⟩ := DataW.trod_struct Try.underlying46 h
  have hC : Try.prog.cellsOf 46 = 3 := by kernel_rfl
  rw [hC] at hlen
  match cs, hlen with
  | [c0, c1, c2], _ =>
    have hfield := field_one (by kernel_rfl) hxl hf
    obtain ⟨y0, t0⟩ := hfield 0 _ rfl
    obtain ⟨y1, t1⟩ := hfield 1 _ rfl
    obtain ⟨y2, t2⟩ := hfield 2 _ rfl
    obtain ⟨x0, k0, q0⟩ := rds_int Try.underlying5 _ _ _ t0
    obtain ⟨x1, k1, q1⟩ := rds_int Try.underlying5 _ _ _ t1
    obtain ⟨x2, k2, q2⟩ := rds_int Try.underlying5 _ _ _ t2
    have e0 : [c0] = [Value.int .u8 x0] := k0
    have e1 : [c1] = [Value.int .u8 x1] := k1
    have e2 : [c2] = [Value.int .u8 x2] := k2
    injection e0 with e0 _
    injection e1 with e1 _
    injection e2 with e2 _
    subst e0 e1 e2
    exact ⟨⟨x0, x1, x2⟩, k46_mk w ⟨x0, x1, x2⟩, q0, q1, q2⟩
end Go.Proofs.Ytendmmagjjhfnaa.R
