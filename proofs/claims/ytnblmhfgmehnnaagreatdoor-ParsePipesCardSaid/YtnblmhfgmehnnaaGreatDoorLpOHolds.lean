/- ParsePipes answers true, whatever it is handed: the statement. -/
import Derived.Test.YtnblmhfgmehnnaaGreatDoorPdAU
import Derived.Test.YtnblmhfgmehnnaaGreatDoorPdAV
namespace Go.Proofs.YtnblmhfgmehnnaaGreatDoor
open Go.ChangeShapes Go.WideShapes Go.ChangeAt Go.WideMaps Go.WideElems Go.RowKit

set_option maxRecDepth 100000 in
theorem pipes_lifted (os : Os) (started : os.Started) (H : Type) (enc : TypeId × Value → H) :
    ReturnsInHanded {} Tryz.checked os 5 .any (fun w args => (Rows.parsePipesSpec.pre enc Tryz.prog Tryz.f5 [] false w args ∧ laidMetH Tryz.prog Rows.parsePipesRow.laid w) ∧ sizedMet enc Tryz.prog Tryz.f5 (OpenSpec.ofChange Rows.parsePipesSpec) false w args) (Rows.parsePipesSpec.post enc Tryz.prog Tryz.f5 false true false false) := by
  refine lifted_tied (s := Rows.parsePipesSpec) (laid := Rows.parsePipesRow.laid) os started H enc (by kernel_rfl) Tryz.func5
    (ChangeSpec.witness_shaped (enc := enc) (C := Tryz.checked) (os := os) (X := fun w _ => laidMetH Tryz.prog Rows.parsePipesRow.laid w) false (World.laidAll Tryz.prog os Rows.parsePipesRow.laid) #[.agg #[.int .i64 0, .int .i64 0, .bool false, .int .i64 0, .string ⟨#[]⟩, .slice none 0 0, .slice none 0 0, .string ⟨#[]⟩, .slice none 0 0, .slice none 0 0], .slice none 0 0, .string ⟨#[]⟩] 8 (World.laidAll_os _ _ _)
      (World.shaped_of_ZipB (by kernel_rfl) (by kernel_rfl)) (by kernel_rfl) (by kernel_rfl) (by kernel_rfl)
      (by rw [MakeChecks.laidMetH_plain _ _ _ (by kernel_rfl)]; exact laidMet_laidAll _ (by kernel_rfl) (by kernel_rfl)))
    (by kernel_rfl) rfl (by kernel_rfl) Tryz.underlying4 ?_ ?_
  · intro ds h
    match ds, h with
    | [d0, d1, d2], _ => rfl
  · intro W base args ds p hval hA hw hsh hlaid
    rw [Tryz.params5] at hA hval hw
    obtain ⟨v0, vs0, d0, ds0, p0, q0, hargs, rfl, rfl, h0, r0⟩ := trodAll_cons hA
    obtain ⟨v1, vs1, d1, ds1, p1, q1, rfl, rfl, rfl, h1, r1⟩ := trodAll_cons r0
    obtain ⟨v2, vs2, d2, ds2, p2, q2, rfl, rfl, rfl, h2, r2⟩ := trodAll_cons r1
    obtain ⟨rfl, rfl, rfl⟩ := trodAll_nil r2
    obtain rfl : args = #[v0, v1, v2] := by cases args; simp_all
    obtain ⟨hw0, hw⟩ := each_weights hw
    obtain ⟨cs0, e0, rfl, x0⟩ := open_expr (hval 0 45 v0 rfl rfl) h0 hw0
    obtain ⟨hw1, hw⟩ := each_weights hw
    obtain ⟨a1, l1, c1, rfl, x1, m1, z1⟩ := open_u8s (hval 1 23 v1 rfl rfl) h1
    obtain ⟨hw2, hw⟩ := each_weights hw
    obtain ⟨s2, rfl, x2⟩ := open_text (hval 2 9 v2 rfl rfl) h2 hw2
    obtain ⟨L, hL, hU⟩ := repU_of x1 z1
    rw [← hL]
    exact pipes07 x0 a1 L c1 hU (by rw [hL]; exact m1) s2 x2 (max_of hsh) (scal_seven hlaid)

/-- ParsePipes answers true, whatever it is handed: for every input: the row. -/
theorem pipes_row : Rows.ParsePipesSaid :=
  OpenClaim.holds_of_wide 5 Tryz.f5 rfl rfl rfl rfl rfl rfl rfl ⟨rfl, rfl, rfl, rfl, rfl⟩ rfl rfl rfl rfl rfl (by kernel_rfl) Tryz.func5 (by kernel_rfl)
    (of_decide_eq_true (by kernel_rfl)) (by unfold Func.isWrapper; first | (rw [if_pos (by decide +kernel)]; kernel_rfl) | (rw [if_neg (by decide +kernel)]; exact ⟨rfl, rfl⟩))
    (fun os started H enc _ => pipes_lifted os started H enc)
/-- ParsePipes answers true, whatever it is handed: the statement: the row with what it lists tied to the text. -/
theorem pipes_holds : Rows.ParsePipesCardSaid :=
  Claim7.holds_tied_plain_at .later [] [.data, .data, .data, .data, .sentinel, .sentinel, .pinned] true (true, "be9b8e3157d56c0bc38161d7d728651cd06671be5cf165e70a1f5abd33b072a5") true pipes_row (fun _ h => by cases h) (by kernel_rfl) (fun _ h => by cases h) parsePipes_row_tie rfl ⟨rfl, rfl⟩ (by kernel_rfl) rfl
    (fun f fn hf hfn => by
      obtain rfl : f = 5 := Option.some.inj ((show Tryz.prog.funcNamed "mizzen/mizzenlaw07.ParsePipes" = some 5 by kernel_rfl).symm.trans hf) |>.symm
      obtain rfl : fn = Tryz.f5 := (Option.some.inj (Tryz.func5.symm.trans hfn)).symm
      exact ⟨by kernel_rfl, fun j t ht => by
        rw [Tryz.params5] at ht
        have hm : t ∈ [45, 23, 9] := by simpa using Array.mem_of_getElem? ht
        have hall : ([45, 23, 9].all fun u => !Tryz.prog.wantsStandIn u) = true := by kernel_rfl
        exact (show Tryz.prog.wantsStandIn t = false by simpa using List.all_eq_true.1 hall t hm)⟩)
    (by kernel_rfl)
end Go.Proofs.YtnblmhfgmehnnaaGreatDoor
