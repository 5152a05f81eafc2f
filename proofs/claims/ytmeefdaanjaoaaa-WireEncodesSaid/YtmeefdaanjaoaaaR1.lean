/- How messages read. -/
import Derived.Test.YtmeefdaanjaoaaaR0
import Derived.Test.YtmeefdaanjaoaaaM0
namespace Go.Proofs.Ytmeefdaanjaoaaa.R
open Go.RowKit Go.Proofs.YtmeefdaanjaoaaaW.PrintWords Go.ChangeShapes Go.WideShapes Go.Deep Go.Proofs.Ytmeefdaanjaoaaa.M
set_option linter.unusedVariables false
theorem rds_31 {H : Type} {enc : TypeId × Value → H} {w : World} : Rds enc Try.prog w 31 k31 (fun _ => True) := by
  intro fuel cs y h
  obtain ⟨xs, n, _, _, hlen, hxl, hf⟩ := DataW.trod_struct Try.underlying31 h
  have hC : Try.prog.cellsOf 31 = 6 := by kernel_rfl
  rw [hC] at hlen
  match cs, hlen with
  | [c0, c1, c2, c3, c4, c5], _ =>
    have hfield := field_one (by kernel_rfl) hxl hf
    obtain ⟨y0, t0⟩ := hfield 0 _ rfl
    obtain ⟨y1, t1⟩ := hfield 1 _ rfl
    obtain ⟨y2, t2⟩ := hfield 2 _ rfl
    obtain ⟨y3, t3⟩ := hfield 3 _ rfl
    obtain ⟨y4, t4⟩ := hfield 4 _ rfl
    obtain ⟨y5, t5⟩ := hfield 5 _ rfl
    obtain ⟨x0, k0, _⟩ := rds_int Try.underlying3 _ _ _ t0
    obtain ⟨x1, k1, _⟩ := rds_int Try.underlying3 _ _ _ t1
    obtain ⟨x2, k2, _⟩ := rds_int Try.underlying3 _ _ _ t2
    obtain ⟨x3, k3, _⟩ := rds_int Try.underlying3 _ _ _ t3
    obtain ⟨x4, k4, _⟩ := rds_int Try.underlying3 _ _ _ t4
    obtain ⟨x5, k5, _⟩ := rds_string Try.underlying9 _ _ _ t5
    have e0 : [c0] = [Value.int .i64 x0] := k0
    have e1 : [c1] = [Value.int .i64 x1] := k1
    have e2 : [c2] = [Value.int .i64 x2] := k2
    have e3 : [c3] = [Value.int .i64 x3] := k3
    have e4 : [c4] = [Value.int .i64 x4] := k4
    have e5 : [c5] = [Value.string x5] := k5
    injection e0 with e0 _
    injection e1 with e1 _
    injection e2 with e2 _
    injection e3 with e3 _
    injection e4 with e4 _
    injection e5 with e5 _
    subst e0 e1 e2 e3 e4 e5
    exact ⟨⟨x0, x1, x2, x3, x4, x5⟩, k31_mk w ⟨x0, x1, x2, x3, x4, x5⟩, trivial⟩
end Go.Proofs.Ytmeefdaanjaoaaa.R
