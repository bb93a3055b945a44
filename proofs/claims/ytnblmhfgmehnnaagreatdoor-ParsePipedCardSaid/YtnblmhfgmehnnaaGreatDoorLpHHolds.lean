/- ParsePiped answers true, whatever it is handed: the statement. -/
import Derived.Test.YtnblmhfgmehnnaaGreatDoorLpH
import Derived.Test.YtnblmhfgmehnnaaGreatDoorBdAC
import Derived.Test.YtnblmhfgmehnnaaGreatDoorBdAA
namespace Go.Proofs.YtnblmhfgmehnnaaGreatDoor
open Go.ChangeShapes Go.WideShapes Go.ChangeAt Go.WideMaps Go.WideElems Go.RowKit

set_option maxRecDepth 100000 in
theorem piped_lifted (os : Os) (started : os.Started) (H : Type) (enc : TypeId × Value → H) :
    ReturnsInHanded {} Tryz.checked os 7 .any (fun w args => (Rows.parsePipedSpec.pre enc Tryz.prog Tryz.f7 [] false w args ∧ laidMetH Tryz.prog Rows.parsePipedRow.laid w) ∧ sizedMet enc Tryz.prog Tryz.f7 (OpenSpec.ofChange Rows.parsePipedSpec) false w args) (Rows.parsePipedSpec.post enc Tryz.prog Tryz.f7 false true false false) := by
  refine lifted_tied (s := Rows.parsePipedSpec) (laid := Rows.parsePipedRow.laid) os started H enc (by kernel_rfl) Tryz.func7
    (ChangeSpec.witness_shaped (enc := enc) (C := Tryz.checked) (os := os) (X := fun w _ => laidMetH Tryz.prog Rows.parsePipedRow.laid w) false (World.laidAll Tryz.prog os Rows.parsePipedRow.laid) #[.string ⟨#[]⟩, .string ⟨#[]⟩, .string ⟨#[]⟩, .string ⟨#[]⟩] 8 (World.laidAll_os _ _ _)
      (World.shaped_of_ZipB (by kernel_rfl) (by kernel_rfl)) (by kernel_rfl) (by kernel_rfl) (by kernel_rfl)
      (by rw [MakeChecks.laidMetH_plain _ _ _ (by kernel_rfl)]; exact laidMet_laidAll _ (by kernel_rfl) (by kernel_rfl)))
    (by kernel_rfl) rfl (by kernel_rfl) Tryz.underlying4 ?_ ?_
  · intro ds h
    match ds, h with
    | [d0, d1, d2, d3], _ => rfl
  · intro W base args ds p hval hA hw hsh hlaid
    rw [Tryz.params7] at hA hval hw
    obtain ⟨v0, vs0, d0, ds0, p0, q0, hargs, rfl, rfl, h0, r0⟩ := trodAll_cons hA
    obtain ⟨v1, vs1, d1, ds1, p1, q1, rfl, rfl, rfl, h1, r1⟩ := trodAll_cons r0
    obtain ⟨v2, vs2, d2, ds2, p2, q2, rfl, rfl, rfl, h2, r2⟩ := trodAll_cons r1
    obtain ⟨v3, vs3, d3, ds3, p3, q3, rfl, rfl, rfl, h3, r3⟩ := trodAll_cons r2
    obtain ⟨rfl, rfl, rfl⟩ := trodAll_nil r3
    obtain rfl : args = #[v0, v1, v2, v3] := by cases args; simp_all
    obtain ⟨hw0, hw⟩ := each_weights hw
    obtain ⟨s0, rfl, x0⟩ := open_text (hval 0 9 v0 rfl rfl) h0 hw0
    obtain ⟨hw1, hw⟩ := each_weights hw
    obtain ⟨s1, rfl, x1⟩ := open_text (hval 1 9 v1 rfl rfl) h1 hw1
    obtain ⟨hw2, hw⟩ := each_weights hw
    obtain ⟨s2, rfl, x2⟩ := open_text (hval 2 9 v2 rfl rfl) h2 hw2
    obtain ⟨hw3, hw⟩ := each_weights hw
    obtain ⟨s3, rfl, x3⟩ := open_text (hval 3 9 v3 rfl rfl) h3 hw3
    exact piped07 s0 s1 s2 s3 W x0 x1 x2 x3 (max_of hsh) (scal_seven hlaid)

/-- ParsePiped answers true, whatever it is handed: for every input: the row. -/
theorem piped_row : Rows.ParsePipedSaid :=
  OpenClaim.holds_of_wide 7 Tryz.f7 rfl rfl rfl rfl rfl rfl rfl ⟨rfl, rfl, rfl, rfl, rfl⟩ rfl rfl rfl rfl rfl (by kernel_rfl) Tryz.func7 (by kernel_rfl)
    (of_decide_eq_true (by kernel_rfl)) (by unfold Func.isWrapper; first | (rw [if_pos (by decide +kernel)]; kernel_rfl) | (rw [if_neg (by decide +kernel)]; exact ⟨rfl, rfl⟩))
    (fun os started H enc _ => piped_lifted os started H enc)
/-- ParsePiped answers true, whatever it is handed: the statement: the row with what it lists tied to the text. -/
theorem piped_holds : Rows.ParsePipedCardSaid :=
  Claim7.holds_tied_plain_at .later [] [.data, .data, .data, .data, .sentinel, .sentinel, .pinned] true (true, "be9b8e3157d56c0bc38161d7d728651cd06671be5cf165e70a1f5abd33b072a5") true piped_row (fun _ h => by cases h) (by kernel_rfl) (fun _ h => by cases h) parsePiped_row_tie rfl ⟨rfl, rfl⟩ (by kernel_rfl) rfl
    (fun f fn hf hfn => by
      obtain rfl : f = 7 := Option.some.inj ((show Tryz.prog.funcNamed "mizzen/mizzenlaw07.ParsePiped" = some 7 by kernel_rfl).symm.trans hf) |>.symm
      obtain rfl : fn = Tryz.f7 := (Option.some.inj (Tryz.func7.symm.trans hfn)).symm
      exact ⟨by kernel_rfl, fun j t ht => by
        rw [Tryz.params7] at ht
        have hm : t ∈ [9] := by simpa using Array.mem_of_getElem? ht
        have hall : ([9].all fun u => !Tryz.prog.wantsStandIn u) = true := by kernel_rfl
        exact (show Tryz.prog.wantsStandIn t = false by simpa using List.all_eq_true.1 hall t hm)⟩)
    (by kernel_rfl)
end Go.Proofs.YtnblmhfgmehnnaaGreatDoor
