/- TreeMaps answers true, whatever it is handed: the statement. -/
import Derived.Test.YtmdihildjblgnaaMaps
import Derived.Test.YtmdihildjblgnaaOpen
namespace Go.Proofs.Ytmdihildjblgnaa
open Go.ChangeShapes Go.WideShapes Go.ChangeAt Go.RowKit

set_option maxRecDepth 100000 in
theorem maps_lifted (os : Os) (started : os.Started) (H : Type) (enc : TypeId × Value → H) :
    ReturnsInHanded {} Try.checked os 5 .any (Rows.treeMapsSpec.pre6 enc Try.prog Try.f5 Rows.treeMapsRow.domain false) (Rows.treeMapsSpec.post enc Try.prog Try.f5 false true false false) := by
  refine lifted_of (s := Rows.treeMapsSpec) os started H enc (by kernel_rfl) Try.func5
    (ChangeSpec.witness6 (enc := enc) (C := Try.checked) false ⟨#[], #[.agg #[.int .i64 0, .bool false, .int .i64 0, .string ⟨#[]⟩, .slice none 0 0, .slice none 0 0], .agg #[.int .i64 0, .bool false, .int .i64 0, .string ⟨#[]⟩, .slice none 0 0, .slice none 0 0], .string ⟨#[]⟩, .slice none 0 0], []⟩ 8 (by kernel_rfl) (by kernel_rfl) (by kernel_rfl) (by kernel_rfl))
    (by kernel_rfl) rfl (by kernel_rfl) Try.underlying4 ?_ ?_
  · intro ds h
    match ds, h with
    | [d0, d1, d2, d3], _ => rfl
  · intro W base args ds p hval hA hw
    rw [Try.params5] at hA hval hw
    obtain ⟨v0, vs0, d0, ds0, p0, q0, hargs, rfl, rfl, h0, r0⟩ := trodAll_cons hA
    obtain ⟨v1, vs1, d1, ds1, p1, q1, rfl, rfl, rfl, h1, r1⟩ := trodAll_cons r0
    obtain ⟨v2, vs2, d2, ds2, p2, q2, rfl, rfl, rfl, h2, r2⟩ := trodAll_cons r1
    obtain ⟨v3, vs3, d3, ds3, p3, q3, rfl, rfl, rfl, h3, r3⟩ := trodAll_cons r2
    obtain ⟨rfl, rfl, rfl⟩ := trodAll_nil r3
    obtain rfl : args = #[v0, v1, v2, v3] := by cases args; simp_all
    obtain ⟨hw0, hw⟩ := each_weights hw
    obtain ⟨t0, x0⟩ := open_val (hval 0 25 v0 rfl rfl) h0 hw0
    obtain ⟨hw1, hw⟩ := each_weights hw
    obtain ⟨t1, x1⟩ := open_val (hval 1 25 v1 rfl rfl) h1 hw1
    obtain ⟨hw2, hw⟩ := each_weights hw
    obtain ⟨s2, rfl, x2⟩ := open_text (hval 2 9 v2 rfl rfl) h2 hw2
    obtain ⟨hw3, hw⟩ := each_weights hw
    obtain ⟨a3, l3, c3, rfl, x3, n3, m3, z3⟩ := open_texts (hval 3 41 v3 rfl rfl) h3 hw3
    exact maps t0 t1 s2 l3 a3 c3 v0 v1 W x0 x1 x2 x3

/-- TreeMaps answers true, whatever it is handed: for every input. -/
theorem maps_holds : Rows.TreeMapsSaid :=
  OpenClaim.holds_of_wide 5 Try.f5 rfl rfl rfl rfl rfl rfl rfl ⟨rfl, rfl, rfl, rfl, rfl⟩ rfl rfl rfl rfl rfl (by kernel_rfl) Try.func5 (by kernel_rfl)
    (of_decide_eq_true (by kernel_rfl)) (by unfold Func.isWrapper; first | (rw [if_pos (by decide +kernel)]; kernel_rfl) | (rw [if_neg (by decide +kernel)]; exact ⟨rfl, rfl⟩))
    (fun os started H enc _ => maps_lifted os started H enc)
end Go.Proofs.Ytmdihildjblgnaa
