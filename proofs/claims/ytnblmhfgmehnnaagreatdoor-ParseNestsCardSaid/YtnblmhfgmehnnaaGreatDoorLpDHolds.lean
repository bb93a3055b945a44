/- ParseNests answers true, whatever it is handed: the statement. -/
import Derived.Test.YtnblmhfgmehnnaaGreatDoorLpD
import Derived.Test.YtnblmhfgmehnnaaGreatDoorBdAC
import Derived.Test.YtnblmhfgmehnnaaGreatDoorBdAA
namespace Go.Proofs.YtnblmhfgmehnnaaGreatDoor
open Go.ChangeShapes Go.WideShapes Go.ChangeAt Go.WideMaps Go.WideElems Go.RowKit

theorem u8_of7 {n : Int} (h : (Lit.int .u8 n).wf = true) : ∃ c : UInt8, n = c.toNat := by
  have h1 : 0 ≤ n ∧ n < 256 := by
    have e1 : IntKind.u8.min = 0 := by decide
    have e2 : IntKind.u8.max = 255 := by decide
    simp [Lit.wf] at h
    rw [e1, e2] at h
    omega
  refine ⟨UInt8.ofNat n.toNat, ?_⟩
  rw [UInt8.toNat_ofNat']; omega
set_option maxRecDepth 100000 in
theorem nests_lifted (os : Os) (started : os.Started) (H : Type) (enc : TypeId × Value → H) :
    ReturnsInHanded {} Tryz.checked os 8 .any (fun w args => (Rows.parseNestsSpec.pre enc Tryz.prog Tryz.f8 [] false w args ∧ laidMetH Tryz.prog Rows.parseNestsRow.laid w) ∧ sizedMet enc Tryz.prog Tryz.f8 (OpenSpec.ofChange Rows.parseNestsSpec) false w args) (Rows.parseNestsSpec.post enc Tryz.prog Tryz.f8 false true false false) := by
  refine lifted_tied (s := Rows.parseNestsSpec) (laid := Rows.parseNestsRow.laid) os started H enc (by kernel_rfl) Tryz.func8
    (ChangeSpec.witness_shaped (enc := enc) (C := Tryz.checked) (os := os) (X := fun w _ => laidMetH Tryz.prog Rows.parseNestsRow.laid w) false (World.laidAll Tryz.prog os Rows.parseNestsRow.laid) #[.int .u8 0] 8 (World.laidAll_os _ _ _)
      (World.shaped_of_ZipB (by kernel_rfl) (by kernel_rfl)) (by kernel_rfl) (by kernel_rfl) (by kernel_rfl)
      (by rw [MakeChecks.laidMetH_plain _ _ _ (by kernel_rfl)]; exact laidMet_laidAll _ (by kernel_rfl) (by kernel_rfl)))
    (by kernel_rfl) rfl (by kernel_rfl) Tryz.underlying4 ?_ ?_
  · intro ds h
    match ds, h with
    | [d0], _ => rfl
  · intro W base args ds p hval hA hw hsh hlaid
    rw [Tryz.params8] at hA hval hw
    obtain ⟨v0, vs0, d0, ds0, p0, q0, hargs, rfl, rfl, h0, r0⟩ := trodAll_cons hA
    obtain ⟨rfl, rfl, rfl⟩ := trodAll_nil r0
    obtain rfl : args = #[v0] := by cases args; simp_all
    obtain ⟨hw0, hw⟩ := each_weights hw
    obtain ⟨n0, rfl, -, -, x0⟩ := open_int Tryz.underlying5 (hval 0 5 v0 rfl rfl) h0
    obtain ⟨c, rfl⟩ := u8_of7 x0
    exact nests07 c W (max_of hsh) (scal_seven hlaid)

/-- ParseNests answers true, whatever it is handed: for every input: the row. -/
theorem nests_row : Rows.ParseNestsSaid :=
  OpenClaim.holds_of_wide 8 Tryz.f8 rfl rfl rfl rfl rfl rfl rfl ⟨rfl, rfl, rfl, rfl, rfl⟩ rfl rfl rfl rfl rfl (by kernel_rfl) Tryz.func8 (by kernel_rfl)
    (of_decide_eq_true (by kernel_rfl)) (by unfold Func.isWrapper; first | (rw [if_pos (by decide +kernel)]; kernel_rfl) | (rw [if_neg (by decide +kernel)]; exact ⟨rfl, rfl⟩))
    (fun os started H enc _ => nests_lifted os started H enc)
/-- ParseNests answers true, whatever it is handed: the statement: the row with what it lists tied to the text. -/
theorem nests_holds : Rows.ParseNestsCardSaid :=
  Claim7.holds_tied_plain_at .later [] [.data, .data, .data, .data, .sentinel, .sentinel, .pinned] true (true, "be9b8e3157d56c0bc38161d7d728651cd06671be5cf165e70a1f5abd33b072a5") true nests_row (fun _ h => by cases h) (by kernel_rfl) (fun _ h => by cases h) parseNests_row_tie rfl ⟨rfl, rfl⟩ (by kernel_rfl) rfl
    (fun f fn hf hfn => by
      obtain rfl : f = 8 := Option.some.inj ((show Tryz.prog.funcNamed "mizzen/mizzenlaw07.ParseNests" = some 8 by kernel_rfl).symm.trans hf) |>.symm
      obtain rfl : fn = Tryz.f8 := (Option.some.inj (Tryz.func8.symm.trans hfn)).symm
      exact ⟨by kernel_rfl, fun j t ht => by
        rw [Tryz.params8] at ht
        have hm : t ∈ [5] := by simpa using Array.mem_of_getElem? ht
        have hall : ([5].all fun u => !Tryz.prog.wantsStandIn u) = true := by kernel_rfl
        exact (show Tryz.prog.wantsStandIn t = false by simpa using List.all_eq_true.1 hall t hm)⟩)
    (by kernel_rfl)
end Go.Proofs.YtnblmhfgmehnnaaGreatDoor
