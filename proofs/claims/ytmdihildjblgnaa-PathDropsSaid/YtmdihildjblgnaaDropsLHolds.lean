/- PathDrops answers true, whatever it is handed: the statement. -/
import Derived.Test.YtmdihildjblgnaaDropsL
import Derived.Test.YtmdihildjblgnaaOpen
namespace Go.Proofs.Ytmdihildjblgnaa
open Go.ChangeShapes Go.WideShapes Go.ChangeAt Go.RowKit

set_option maxRecDepth 100000 in
theorem dropsL_lifted (os : Os) (started : os.Started) (H : Type) (enc : TypeId × Value → H) :
    ReturnsInHanded {} Try.checked os 12 .any (Rows.pathDropsSpec.pre6 enc Try.prog Try.f12 Rows.pathDropsRow.domain false) (Rows.pathDropsSpec.post enc Try.prog Try.f12 false true false false) := by
  refine lifted_of (s := Rows.pathDropsSpec) os started H enc (by kernel_rfl) Try.func12
    (ChangeSpec.witness6 (enc := enc) (C := Try.checked) false ⟨#[], #[.agg #[.int .i64 0, .bool false, .int .i64 0, .string ⟨#[]⟩, .slice none 0 0, .slice none 0 0], .int .u8 0], []⟩ 8 (by kernel_rfl) (by kernel_rfl) (by kernel_rfl) (by kernel_rfl))
    (by kernel_rfl) rfl (by kernel_rfl) Try.underlying4 ?_ ?_
  · intro ds h
    match ds, h with
    | [d0, d1], _ => rfl
  · intro W base args ds p hval hA hw
    rw [Try.params12] at hA hval hw
    obtain ⟨v0, vs0, d0, ds0, p0, q0, hargs, rfl, rfl, h0, r0⟩ := trodAll_cons hA
    obtain ⟨v1, vs1, d1, ds1, p1, q1, rfl, rfl, rfl, h1, r1⟩ := trodAll_cons r0
    obtain ⟨rfl, rfl, rfl⟩ := trodAll_nil r1
    obtain rfl : args = #[v0, v1] := by cases args; simp_all
    obtain ⟨hw0, hw⟩ := each_weights hw
    obtain ⟨t0, x0⟩ := open_val (hval 0 25 v0 rfl rfl) h0 hw0
    obtain ⟨hw1, hw⟩ := each_weights hw
    obtain ⟨n1, rfl, -, -, x1⟩ := open_int Try.underlying5 (hval 1 5 v1 rfl rfl) h1
    exact dropsL t0 n1 (bounds_u8 x1).1 (bounds_u8 x1).2 v0 W x0

/-- PathDrops answers true, whatever it is handed: for every input. -/
theorem dropsL_holds : Rows.PathDropsSaid :=
  OpenClaim.holds_of_wide 12 Try.f12 rfl rfl rfl rfl rfl rfl rfl ⟨rfl, rfl, rfl, rfl, rfl⟩ rfl rfl rfl rfl rfl (by kernel_rfl) Try.func12 (by kernel_rfl)
    (of_decide_eq_true (by kernel_rfl)) (by unfold Func.isWrapper; first | (rw [if_pos (by decide +kernel)]; kernel_rfl) | (rw [if_neg (by decide +kernel)]; exact ⟨rfl, rfl⟩))
    (fun os started H enc _ => dropsL_lifted os started H enc)
end Go.Proofs.Ytmdihildjblgnaa
