/- MeterMany answers true, whatever it is handed: the statement. -/
import Derived.Test.YtkndnoccenlngaaManyL
import Derived.Test.YtkndnoccenlngaaOpenI
namespace Go.Proofs.Ytkndnoccenlngaa
open Go.ChangeShapes Go.WideShapes Go.ChangeAt Go.RowKit

set_option maxRecDepth 100000 in
theorem many_lifted (os : Os) (started : os.Started) (H : Type) (enc : TypeId × Value → H) :
    ReturnsInHanded {} Try.checked os 3 .any (Rows.meterManySpec.pre6 enc Try.prog Try.f3 Rows.meterManyRow.domain false) (Rows.meterManySpec.post enc Try.prog Try.f3 false true false false) := by
  refine lifted_of (s := Rows.meterManySpec) os started H enc (by kernel_rfl) Try.func3
    (ChangeSpec.witness6 (enc := enc) (C := Try.checked) false ⟨#[], #[.slice none 0 0, .slice none 0 0], []⟩ 8 (by kernel_rfl) (by kernel_rfl) (by kernel_rfl) (by kernel_rfl))
    (by kernel_rfl) rfl (by kernel_rfl) Try.underlying4 ?_ ?_
  · intro ds h
    match ds, h with
    | [d0, d1], _ => rfl
  · intro W base args ds p hval hA hw
    rw [Try.params3] at hA hval hw
    obtain ⟨v0, vs0, d0, ds0, p0, q0, hargs, rfl, rfl, h0, r0⟩ := trodAll_cons hA
    obtain ⟨v1, vs1, d1, ds1, p1, q1, rfl, rfl, rfl, h1, r1⟩ := trodAll_cons r0
    obtain ⟨rfl, rfl, rfl⟩ := trodAll_nil r1
    obtain rfl : args = #[v0, v1] := by cases args; simp_all
    obtain ⟨hw0, hw⟩ := each_weights hw
    obtain ⟨a0, l0, c0, rfl, x0, m0⟩ := open_LL (hval 0 22 v0 rfl rfl) h0 hw0
    obtain ⟨hw1, hw⟩ := each_weights hw
    obtain ⟨a1, l1, c1, rfl, x1, m1, z1⟩ := open_u8s (hval 1 23 v1 rfl rfl) h1
    exact manyL l0 l1 a0 a1 c0 c1 W x0 x1 z1 m0 m1

/-- MeterMany answers true, whatever it is handed: for every input. -/
theorem many_holds : Rows.MeterManySaid :=
  OpenClaim.holds_of_wide 3 Try.f3 rfl rfl rfl rfl rfl rfl rfl ⟨rfl, rfl, rfl, rfl, rfl⟩ rfl rfl rfl rfl rfl (by kernel_rfl) Try.func3 (by kernel_rfl)
    (of_decide_eq_true (by kernel_rfl)) (by unfold Func.isWrapper; first | (rw [if_pos (by decide +kernel)]; kernel_rfl) | (rw [if_neg (by decide +kernel)]; exact ⟨rfl, rfl⟩))
    (fun os started H enc _ => many_lifted os started H enc)
end Go.Proofs.Ytkndnoccenlngaa
