/- MeterPlays answers true for every input: the row. -/
import Derived.Test.YtkndnoccenlngaaPlays
namespace Go.Proofs.Ytkndnoccenlngaa
open Go.ChangeShapes Go.WideShapes Go.ChangeAt Go.RowKit

theorem plays_lifted (os : Os) (started : os.Started) (H : Type) (enc : TypeId × Value → H) :
    ReturnsInHanded {} Try.checked os 4 .any (Rows.meterPlaysSpec.pre6 enc Try.prog Try.f4 Rows.meterPlaysRow.domain false) (Rows.meterPlaysSpec.post enc Try.prog Try.f4 false true false false) := by
  refine lifted_of (s := Rows.meterPlaysSpec) os started H enc (by kernel_rfl) Try.func4
    (ChangeSpec.witness6 (enc := enc) (C := Try.checked) false ⟨#[], #[.slice none 0 0, .slice none 0 0, .int .u8 0], []⟩ 8 (by kernel_rfl) (by kernel_rfl) (by kernel_rfl) (by kernel_rfl))
    (by kernel_rfl) rfl (by kernel_rfl) Try.underlying4 ?_ ?_
  · intro ds h
    match ds, h with
    | [d0, d1, d2], _ => rfl
  · intro W base args ds p hval hA _
    rw [Try.params4] at hA hval
    obtain ⟨v0, vs0, d0, ds0, p0, q0, hargs, rfl, rfl, h0, r0⟩ := trodAll_cons hA
    obtain ⟨v1, vs1, d1, ds1, p1, q1, rfl, rfl, rfl, h1, r1⟩ := trodAll_cons r0
    obtain ⟨v2, vs2, d2, ds2, p2, q2, rfl, rfl, rfl, h2, r2⟩ := trodAll_cons r1
    obtain ⟨rfl, rfl, rfl⟩ := trodAll_nil r2
    obtain rfl : args = #[v0, v1, v2] := by cases args; simp_all
    obtain ⟨a0, n0, c0, xs, rfl, e0, l0, hx⟩ := open_RepI Try.underlying37 Try.underlying3 (by kernel_rfl) (hval 0 37 v0 rfl rfl) h0
    obtain ⟨a1, n1, c1, ys, rfl, e1, l1, hy⟩ := open_RepI Try.underlying43 Try.underlying2 (by kernel_rfl) (hval 1 43 v1 rfl rfl) h1
    obtain ⟨a2, rfl, rfl, rfl, w2⟩ := open_int Try.underlying5 (hval 2 5 v2 rfl rfl) h2
    exact plays a0 n0 c0 a1 n1 c1 xs ys a2 W _ hx hy e0 e1 (bounds_u8 w2) l0 l1

/-- MeterPlays answers true, whatever it is handed: for every input. -/
theorem plays_holds : Rows.MeterPlaysSaid :=
  OpenClaim.holds_of_wide 4 Try.f4 rfl rfl rfl rfl rfl rfl rfl ⟨rfl, rfl, rfl, rfl, rfl⟩ rfl rfl rfl rfl rfl (by kernel_rfl) Try.func4 (by kernel_rfl)
    (of_decide_eq_true (by kernel_rfl)) (by unfold Func.isWrapper; first | (rw [if_pos (by decide +kernel)]; kernel_rfl) | (rw [if_neg (by decide +kernel)]; exact ⟨rfl, rfl⟩))
    (fun os started H enc _ => plays_lifted os started H enc)

end Go.Proofs.Ytkndnoccenlngaa
