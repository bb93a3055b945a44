/- ParseReads answers true, whatever it is handed: the statement. -/
import Derived.Test.YtnblmhfgmehnnaaGreatDoorPeBB
import Derived.Test.YtnblmhfgmehnnaaGreatDoorPeBA
import Derived.Test.YtnblmhfgmehnnaaGreatDoorPeAB
namespace Go.Proofs.YtnblmhfgmehnnaaGreatDoor
open Go.ChangeShapes Go.WideShapes Go.ChangeAt Go.WideMaps Go.WideElems Go.RowKit

set_option maxRecDepth 100000 in
theorem readsp_lifted (os : Os) (started : os.Started) (H : Type) (enc : TypeId × Value → H) :
    ReturnsInHanded {} Tryz.checked os 4 .any (fun w args => (Rows.parseReadsSpec.pre enc Tryz.prog Tryz.f4 [] false w args ∧ laidMetH Tryz.prog Rows.parseReadsRow.laid w) ∧ sizedMet enc Tryz.prog Tryz.f4 (OpenSpec.ofChange Rows.parseReadsSpec) false w args) (Rows.parseReadsSpec.post enc Tryz.prog Tryz.f4 false true false false) := by
  refine lifted_tied (s := Rows.parseReadsSpec) (laid := Rows.parseReadsRow.laid) os started H enc (by kernel_rfl) Tryz.func4
    (ChangeSpec.witness_shaped (enc := enc) (C := Tryz.checked) (os := os) (X := fun w _ => laidMetH Tryz.prog Rows.parseReadsRow.laid w) false (World.laidAll Tryz.prog os Rows.parseReadsRow.laid) #[.string ⟨#[]⟩, .slice none 0 0] 8 (World.laidAll_os _ _ _)
      (World.shaped_of_ZipB (by kernel_rfl) (by kernel_rfl)) (by kernel_rfl) (by kernel_rfl) (by kernel_rfl)
      (by rw [MakeChecks.laidMetH_plain _ _ _ (by kernel_rfl)]; exact laidMet_laidAll _ (by kernel_rfl) (by kernel_rfl)))
    (by kernel_rfl) rfl (by kernel_rfl) Tryz.underlying4 ?_ ?_
  · intro ds h
    match ds, h with
    | [d0, d1], _ => rfl
  · intro W base args ds p hval hA hw hsh hlaid
    rw [Tryz.params4] at hA hval hw
    obtain ⟨v0, vs0, d0, ds0, p0, q0, hargs, rfl, rfl, h0, r0⟩ := trodAll_cons hA
    obtain ⟨v1, vs1, d1, ds1, p1, q1, rfl, rfl, rfl, h1, r1⟩ := trodAll_cons r0
    obtain ⟨rfl, rfl, rfl⟩ := trodAll_nil r1
    obtain rfl : args = #[v0, v1] := by cases args; simp_all
    obtain ⟨hw0, hw⟩ := each_weights hw
    obtain ⟨s0, rfl, x0⟩ := open_text (hval 0 9 v0 rfl rfl) h0 hw0
    obtain ⟨hw1, hw⟩ := each_weights hw
    obtain ⟨a1, l1, c1, rfl, x1, m1, z1⟩ := open_u8s (hval 1 23 v1 rfl rfl) h1
    obtain ⟨L, hL, hU⟩ := repU_of x1 z1
    rw [← hL]
    exact reads07 s0 a1 L c1 hU (by rw [hL]; exact m1) x0 (max_of hsh) (scal_seven hlaid)

/-- ParseReads answers true, whatever it is handed: for every input: the row. -/
theorem readsp_row : Rows.ParseReadsSaid :=
  OpenClaim.holds_of_wide 4 Tryz.f4 rfl rfl rfl rfl rfl rfl rfl ⟨rfl, rfl, rfl, rfl, rfl⟩ rfl rfl rfl rfl rfl (by kernel_rfl) Tryz.func4 (by kernel_rfl)
    (of_decide_eq_true (by kernel_rfl)) (by unfold Func.isWrapper; first | (rw [if_pos (by decide +kernel)]; kernel_rfl) | (rw [if_neg (by decide +kernel)]; exact ⟨rfl, rfl⟩))
    (fun os started H enc _ => readsp_lifted os started H enc)
/-- ParseReads answers true, whatever it is handed: the statement: the row with what it lists tied to the text. -/
theorem readsp_holds : Rows.ParseReadsCardSaid :=
  Claim7.holds_tied_plain_at .later [] [.data, .data, .data, .data, .sentinel, .sentinel, .pinned] true (true, "be9b8e3157d56c0bc38161d7d728651cd06671be5cf165e70a1f5abd33b072a5") true readsp_row (fun _ h => by cases h) (by kernel_rfl) (fun _ h => by cases h) parseReads_row_tie rfl ⟨rfl, rfl⟩ (by kernel_rfl) rfl
    (fun f fn hf hfn => by
      obtain rfl : f = 4 := Option.some.inj ((show Tryz.prog.funcNamed "mizzen/mizzenlaw07.ParseReads" = some 4 by kernel_rfl).symm.trans hf) |>.symm
      obtain rfl : fn = Tryz.f4 := (Option.some.inj (Tryz.func4.symm.trans hfn)).symm
      exact ⟨by kernel_rfl, fun j t ht => by
        rw [Tryz.params4] at ht
        have hm : t ∈ [9, 23] := by simpa using Array.mem_of_getElem? ht
        have hall : ([9, 23].all fun u => !Tryz.prog.wantsStandIn u) = true := by kernel_rfl
        exact (show Tryz.prog.wantsStandIn t = false by simpa using List.all_eq_true.1 hall t hm)⟩)
    (by kernel_rfl)
end Go.Proofs.YtnblmhfgmehnnaaGreatDoor
