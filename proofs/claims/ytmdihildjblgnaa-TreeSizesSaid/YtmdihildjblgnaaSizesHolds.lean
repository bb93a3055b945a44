/- TreeSizes answers true for every input: the row. -/
import Derived.Test.YtmdihildjblgnaaSizes
import Derived.Test.YtmdihildjblgnaaOpen
namespace Go.Proofs.Ytmdihildjblgnaa
open Go.ChangeShapes Go.WideShapes Go.ChangeAt Go.RowKit

set_option maxRecDepth 100000 in
theorem sizes_lifted (os : Os) (started : os.Started) (H : Type) (enc : TypeId × Value → H) :
    ReturnsInHanded {} Try.checked os 4 .any (Rows.treeSizesSpec.pre6 enc Try.prog Try.f4 Rows.treeSizesRow.domain false) (Rows.treeSizesSpec.post enc Try.prog Try.f4 false true false false) := by
  refine lifted_of (s := Rows.treeSizesSpec) os started H enc (by kernel_rfl) Try.func4
    (ChangeSpec.witness6 (enc := enc) (C := Try.checked) false ⟨#[], #[.slice none 0 0], []⟩ 8 (by kernel_rfl) (by kernel_rfl) (by kernel_rfl) (by kernel_rfl))
    (by kernel_rfl) rfl (by kernel_rfl) Try.underlying4 ?_ ?_
  · intro ds h
    match ds, h with
    | [d0], _ => rfl
  · intro W base args ds p hval hA hw
    rw [Try.params4] at hA hval hw
    obtain ⟨v0, vs0, d0, ds0, p0, q0, hargs, rfl, rfl, h0, r0⟩ := trodAll_cons hA
    obtain ⟨rfl, rfl, rfl⟩ := trodAll_nil r0
    obtain rfl : args = #[v0] := by cases args; simp_all
    obtain ⟨hw0, hw⟩ := each_weights hw
    obtain ⟨a0, l0, c0, rfl, x0, n0, m0, z0⟩ := open_vals (hval 0 22 v0 rfl rfl) h0 hw0
    exact sizes l0 a0 c0 W x0 z0

/-- TreeSizes answers true, whatever it is handed: for every input. -/
theorem sizes_holds : Rows.TreeSizesSaid :=
  OpenClaim.holds_of_wide 4 Try.f4 rfl rfl rfl rfl rfl rfl rfl ⟨rfl, rfl, rfl, rfl, rfl⟩ rfl rfl rfl rfl rfl (by kernel_rfl) Try.func4 (by kernel_rfl)
    (of_decide_eq_true (by kernel_rfl)) (by unfold Func.isWrapper; first | (rw [if_pos (by decide +kernel)]; kernel_rfl) | (rw [if_neg (by decide +kernel)]; exact ⟨rfl, rfl⟩))
    (fun os started H enc _ => sizes_lifted os started H enc)

end Go.Proofs.Ytmdihildjblgnaa
