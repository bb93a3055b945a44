/- LayerOvers answers true, whatever it is handed: the statement. -/
import Derived.Test.YthkkmnmejciomaaOvers
import Derived.Test.YthkkmnmejciomaaOpen
namespace Go.Proofs.Ythkkmnmejciomaa
open Go.ChangeShapes Go.WideShapes Go.ChangeAt Go.RowKit

set_option maxRecDepth 100000 in
theorem overs_lifted (os : Os) (started : os.Started) (H : Type) (enc : TypeId × Value → H) :
    ReturnsInHanded {} Try.checked os 3 .any (Rows.layerOversSpec.pre6 enc Try.prog Try.f3 Rows.layerOversRow.domain false) (Rows.layerOversSpec.post enc Try.prog Try.f3 false true false false) := by
  refine lifted_of (s := Rows.layerOversSpec) os started H enc (by kernel_rfl) Try.func3
    (ChangeSpec.witness6 (enc := enc) (C := Try.checked) false ⟨#[], #[.agg #[.int .i64 0, .bool false, .int .i64 0, .string ⟨#[]⟩, .slice none 0 0, .slice none 0 0], .agg #[.int .i64 0, .bool false, .int .i64 0, .string ⟨#[]⟩, .slice none 0 0, .slice none 0 0], .slice none 0 0], []⟩ 8 (by kernel_rfl) (by kernel_rfl) (by kernel_rfl) (by kernel_rfl))
    (by kernel_rfl) rfl (by kernel_rfl) Try.underlying4 ?_ ?_
  · intro ds h
    match ds, h with
    | [d0, d1, d2], _ => rfl
  · intro W base args ds p hval hA hw
    rw [Try.params3] at hA hval hw
    obtain ⟨v0, vs0, d0, ds0, p0, q0, hargs, rfl, rfl, h0, r0⟩ := trodAll_cons hA
    obtain ⟨v1, vs1, d1, ds1, p1, q1, rfl, rfl, rfl, h1, r1⟩ := trodAll_cons r0
    obtain ⟨v2, vs2, d2, ds2, p2, q2, rfl, rfl, rfl, h2, r2⟩ := trodAll_cons r1
    obtain ⟨rfl, rfl, rfl⟩ := trodAll_nil r2
    obtain rfl : args = #[v0, v1, v2] := by cases args; simp_all
    obtain ⟨hw0, hw⟩ := each_weights hw
    obtain ⟨t0, x0⟩ := open_val (hval 0 25 v0 rfl rfl) h0 hw0
    obtain ⟨hw1, hw⟩ := each_weights hw
    obtain ⟨t1, x1⟩ := open_val (hval 1 25 v1 rfl rfl) h1 hw1
    obtain ⟨hw2, hw⟩ := each_weights hw
    obtain ⟨a2, l2, c2, rfl, x2, n2, m2, z2⟩ := open_vals (hval 2 22 v2 rfl rfl) h2 hw2
    exact overs3 t0 t1 l2 a2 c2 v0 v1 W x0 x1 x2 (by omega)

/-- LayerOvers answers true, whatever it is handed: for every input. -/
theorem overs_holds : Rows.LayerOversSaid :=
  OpenClaim.holds_of_wide 3 Try.f3 rfl rfl rfl rfl rfl rfl rfl ⟨rfl, rfl, rfl, rfl, rfl⟩ rfl rfl rfl rfl rfl (by kernel_rfl) Try.func3 (by kernel_rfl)
    (of_decide_eq_true (by kernel_rfl)) (by unfold Func.isWrapper; first | (rw [if_pos (by decide +kernel)]; kernel_rfl) | (rw [if_neg (by decide +kernel)]; exact ⟨rfl, rfl⟩))
    (fun os started H enc _ => overs_lifted os started H enc)
end Go.Proofs.Ythkkmnmejciomaa
