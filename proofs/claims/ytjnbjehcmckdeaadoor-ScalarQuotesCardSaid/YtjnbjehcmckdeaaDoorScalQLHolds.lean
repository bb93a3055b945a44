/- ScalarQuotes answers true, whatever it is handed: the statement. -/
import Derived.Test.YtjnbjehcmckdeaaDoorScalQL
import Derived.Test.YtjnbjehcmckdeaaDoorScalW
namespace Go.Proofs.YtjnbjehcmckdeaaDoor
open Go.ChangeShapes Go.WideShapes Go.ChangeAt Go.WideMaps Go.WideElems Go.RowKit

set_option maxRecDepth 100000 in
theorem quotes_lifted (os : Os) (started : os.Started) (H : Type) (enc : TypeId × Value → H) :
    ReturnsInHanded {} Tryd.checked os 10 .any (fun w args => (Rows.scalarQuotesSpec.pre enc Tryd.prog Tryd.f10 [] false w args ∧ laidMetH Tryd.prog Rows.scalarQuotesRow.laid w) ∧ sizedMet enc Tryd.prog Tryd.f10 (OpenSpec.ofChange Rows.scalarQuotesSpec) false w args) (Rows.scalarQuotesSpec.post enc Tryd.prog Tryd.f10 false true false false) := by
  refine lifted_tied (s := Rows.scalarQuotesSpec) (laid := Rows.scalarQuotesRow.laid) os started H enc (by kernel_rfl) Tryd.func10
    (ChangeSpec.witness_shaped (enc := enc) (C := Tryd.checked) (os := os) (X := fun w _ => laidMetH Tryd.prog Rows.scalarQuotesRow.laid w) false (World.laidAll Tryd.prog os Rows.scalarQuotesRow.laid) #[.string ⟨#[]⟩, .string ⟨#[]⟩] 8 (World.laidAll_os _ _ _)
      (World.shaped_of_ZipB (by kernel_rfl) (by kernel_rfl)) (by kernel_rfl) (by kernel_rfl) (by kernel_rfl)
      (by rw [MakeChecks.laidMetH_plain _ _ _ (by kernel_rfl)]; exact laidMet_laidAll _ (by kernel_rfl) (by kernel_rfl)))
    (by kernel_rfl) rfl (by kernel_rfl) Tryd.underlying4 ?_ ?_
  · intro ds h
    match ds, h with
    | [d0, d1], _ => rfl
  · intro W base args ds p hval hA hw hsh hlaid
    rw [Tryd.params10] at hA hval hw
    obtain ⟨v0, vs0, d0, ds0, p0, q0, hargs, rfl, rfl, h0, r0⟩ := trodAll_cons hA
    obtain ⟨v1, vs1, d1, ds1, p1, q1, rfl, rfl, rfl, h1, r1⟩ := trodAll_cons r0
    obtain ⟨rfl, rfl, rfl⟩ := trodAll_nil r1
    obtain rfl : args = #[v0, v1] := by cases args; simp_all
    obtain ⟨hw0, hw⟩ := each_weights hw
    obtain ⟨s0, rfl, x0⟩ := open_text (hval 0 9 v0 rfl rfl) h0 hw0
    obtain ⟨hw1, hw⟩ := each_weights hw
    obtain ⟨s1, rfl, x1⟩ := open_text (hval 1 9 v1 rfl rfl) h1 hw1
    exact quotesL s0 s1 W (scal_of hlaid)

/-- ScalarQuotes answers true, whatever it is handed: for every input: the row. -/
theorem quotes_row : Rows.ScalarQuotesSaid :=
  OpenClaim.holds_of_wide 10 Tryd.f10 rfl rfl rfl rfl rfl rfl rfl ⟨rfl, rfl, rfl, rfl, rfl⟩ rfl rfl rfl rfl rfl (by kernel_rfl) Tryd.func10 (by kernel_rfl)
    (of_decide_eq_true (by kernel_rfl)) (by unfold Func.isWrapper; first | (rw [if_pos (by decide +kernel)]; kernel_rfl) | (rw [if_neg (by decide +kernel)]; exact ⟨rfl, rfl⟩))
    (fun os started H enc _ => quotes_lifted os started H enc)
/-- ScalarQuotes answers true, whatever it is handed: the statement: the row with what it lists tied to the text. -/
theorem quotes_holds : Rows.ScalarQuotesCardSaid :=
  Claim7.holds_tied_plain_at .later [] [.data, .data, .data, .sentinel, .sentinel] true (true, "459c3d60c330bf331c26fde285ee92f51a4a158d8387a76f92c7748abc199153") true quotes_row (fun _ h => by cases h) (by kernel_rfl) (fun _ h => by cases h) scalarQuotes_row_tie rfl ⟨rfl, rfl⟩ (by kernel_rfl) rfl
    (fun f fn hf hfn => by
      obtain rfl : f = 10 := Option.some.inj ((show Tryd.prog.funcNamed "mizzen/mizzenlaw04.ScalarQuotes" = some 10 by kernel_rfl).symm.trans hf) |>.symm
      obtain rfl : fn = Tryd.f10 := (Option.some.inj (Tryd.func10.symm.trans hfn)).symm
      exact ⟨by kernel_rfl, fun j t ht => by
        rw [Tryd.params10] at ht
        have hm : t ∈ [9] := by simpa using Array.mem_of_getElem? ht
        have hall : ([9].all fun u => !Tryd.prog.wantsStandIn u) = true := by kernel_rfl
        exact (show Tryd.prog.wantsStandIn t = false by simpa using List.all_eq_true.1 hall t hm)⟩)
    (by kernel_rfl)
end Go.Proofs.YtjnbjehcmckdeaaDoor
