/- ObjectKeys answers true, whatever it is handed: the statement. -/
import Derived.Test.YtjnbjehcmckdeaaDoorObjK
import Derived.Test.YtjnbjehcmckdeaaDoorObjH
namespace Go.Proofs.YtjnbjehcmckdeaaDoor
open Go.ChangeShapes Go.WideShapes Go.ChangeAt Go.WideMaps Go.WideElems Go.RowKit

set_option maxRecDepth 100000 in
theorem keys_lifted (os : Os) (started : os.Started) (H : Type) (enc : TypeId × Value → H) :
    ReturnsInHanded {} Tryd.checked os 3 .any (fun w args => (Rows.objectKeysSpec.pre enc Tryd.prog Tryd.f3 [] false w args ∧ laidMetH Tryd.prog Rows.objectKeysRow.laid w) ∧ sizedMet enc Tryd.prog Tryd.f3 (OpenSpec.ofChange Rows.objectKeysSpec) false w args) (Rows.objectKeysSpec.post enc Tryd.prog Tryd.f3 false true false false) := by
  refine lifted_tied (s := Rows.objectKeysSpec) (laid := Rows.objectKeysRow.laid) os started H enc (by kernel_rfl) Tryd.func3
    (ChangeSpec.witness_shaped (enc := enc) (C := Tryd.checked) (os := os) (X := fun w _ => laidMetH Tryd.prog Rows.objectKeysRow.laid w) false (World.laidAll Tryd.prog os Rows.objectKeysRow.laid) #[.agg #[.string ⟨#[]⟩, .string ⟨#[]⟩, .string ⟨#[]⟩], .agg #[.string ⟨#[]⟩, .string ⟨#[]⟩, .string ⟨#[]⟩]] 8 (World.laidAll_os _ _ _)
      (World.shaped_of_ZipB (by kernel_rfl) (by kernel_rfl)) (by kernel_rfl) (by kernel_rfl) (by kernel_rfl)
      (by rw [MakeChecks.laidMetH_plain _ _ _ (by kernel_rfl)]; exact laidMet_laidAll _ (by kernel_rfl) (by kernel_rfl)))
    (by kernel_rfl) rfl (by kernel_rfl) Tryd.underlying4 ?_ ?_
  · intro ds h
    match ds, h with
    | [d0, d1], _ => rfl
  · intro W base args ds p hval hA hw hsh hlaid
    rw [Tryd.params3] at hA hval hw
    obtain ⟨v0, vs0, d0, ds0, p0, q0, hargs, rfl, rfl, h0, r0⟩ := trodAll_cons hA
    obtain ⟨v1, vs1, d1, ds1, p1, q1, rfl, rfl, rfl, h1, r1⟩ := trodAll_cons r0
    obtain ⟨rfl, rfl, rfl⟩ := trodAll_nil r1
    obtain rfl : args = #[v0, v1] := by cases args; simp_all
    obtain ⟨hw0, hw⟩ := each_weights hw
    obtain ⟨a0, rfl, x0⟩ := open_id (hval 0 23 v0 rfl rfl) h0 hw0
    obtain ⟨hw1, hw⟩ := each_weights hw
    obtain ⟨a1, rfl, x1⟩ := open_id (hval 1 23 v1 rfl rfl) h1 hw1
    exact keysL a0 a1 W x0.1 x0.2.1 x0.2.2 x1.1 x1.2.1 x1.2.2 (keys_obj hlaid)

/-- ObjectKeys answers true, whatever it is handed: for every input: the row. -/
theorem keys_row : Rows.ObjectKeysSaid :=
  OpenClaim.holds_of_wide 3 Tryd.f3 rfl rfl rfl rfl rfl rfl rfl ⟨rfl, rfl, rfl, rfl, rfl⟩ rfl rfl rfl rfl rfl (by kernel_rfl) Tryd.func3 (by kernel_rfl)
    (of_decide_eq_true (by kernel_rfl)) (by unfold Func.isWrapper; first | (rw [if_pos (by decide +kernel)]; kernel_rfl) | (rw [if_neg (by decide +kernel)]; exact ⟨rfl, rfl⟩))
    (fun os started H enc _ => keys_lifted os started H enc)
/-- ObjectKeys answers true, whatever it is handed: the statement: the row with what it lists tied to the text. -/
theorem keys_holds : Rows.ObjectKeysCardSaid :=
  Claim7.holds_tied_plain_at .later [] [.widerDeep] true (true, "459c3d60c330bf331c26fde285ee92f51a4a158d8387a76f92c7748abc199153") true keys_row (fun _ h => by cases h) (by kernel_rfl) (fun _ h => by cases h) objectKeys_row_tie rfl ⟨rfl, rfl⟩ (by kernel_rfl) rfl
    (fun f fn hf hfn => by
      obtain rfl : f = 3 := Option.some.inj ((show Tryd.prog.funcNamed "mizzen/mizzenlaw12.ObjectKeys" = some 3 by kernel_rfl).symm.trans hf) |>.symm
      obtain rfl : fn = Tryd.f3 := (Option.some.inj (Tryd.func3.symm.trans hfn)).symm
      exact ⟨by kernel_rfl, fun j t ht => by
        rw [Tryd.params3] at ht
        have hm : t ∈ [23] := by simpa using Array.mem_of_getElem? ht
        have hall : ([23].all fun u => !Tryd.prog.wantsStandIn u) = true := by kernel_rfl
        exact (show Tryd.prog.wantsStandIn t = false by simpa using List.all_eq_true.1 hall t hm)⟩)
    (by kernel_rfl)
end Go.Proofs.YtjnbjehcmckdeaaDoor
