/- PathWords answers true, whatever it is handed: the statement. -/
import Derived.Test.YtjnbjehcmckdeaaDoorPWordsL
import Derived.Test.YtjnbjehcmckdeaaDoorTied
import Derived.Test.YtjnbjehcmckdeaaDoorOpen
import Derived.ProofKit
import Derived.LaidMore
import Derived.OpenShut
import Derived.Stop.Joined
namespace Go.Proofs.YtjnbjehcmckdeaaDoor
open Go.ChangeShapes Go.WideShapes Go.ChangeAt Go.WideMaps Go.WideElems Go.RowKit

theorem maxP_of {W : World} (h : W.ShapedOpen Tryd.prog) : MaxP W := Tryd.laysM143.s1_3 W h
set_option maxRecDepth 100000 in
theorem pwordsL_lifted (os : Os) (started : os.Started) (H : Type) (enc : TypeId × Value → H) :
    ReturnsInHanded {} Tryd.checked os 9 .any (fun w args => (Rows.pathWordsSpec.pre enc Tryd.prog Tryd.f9 [] false w args ∧ laidMetH Tryd.prog Rows.pathWordsRow.laid w) ∧ sizedMet enc Tryd.prog Tryd.f9 (OpenSpec.ofChange Rows.pathWordsSpec) false w args) (Rows.pathWordsSpec.post enc Tryd.prog Tryd.f9 false true false false) := by
  refine lifted_tied (s := Rows.pathWordsSpec) (laid := Rows.pathWordsRow.laid) os started H enc (by kernel_rfl) Tryd.func9
    (ChangeSpec.witness_shaped (enc := enc) (C := Tryd.checked) (os := os) (X := fun w _ => laidMetH Tryd.prog Rows.pathWordsRow.laid w) false (World.laidAll Tryd.prog os Rows.pathWordsRow.laid) #[.string ⟨#[]⟩, .slice none 0 0, .slice none 0 0] 8 (World.laidAll_os _ _ _)
      (World.shaped_of_ZipB (by kernel_rfl) (by kernel_rfl)) (by kernel_rfl) (by kernel_rfl) (by kernel_rfl)
      (by rw [MakeChecks.laidMetH_plain _ _ _ (by kernel_rfl)]; exact laidMet_laidAll _ (by kernel_rfl) (by kernel_rfl)))
    (by kernel_rfl) rfl (by kernel_rfl) Tryd.underlying4 ?_ ?_
  · intro ds h
    match ds, h with
    | [d0, d1, d2], _ => rfl
  · intro W base args ds p hval hA hw hsh hlaid
    rw [Tryd.params9] at hA hval hw
    obtain ⟨v0, vs0, d0, ds0, p0, q0, hargs, rfl, rfl, h0, r0⟩ := trodAll_cons hA
    obtain ⟨v1, vs1, d1, ds1, p1, q1, rfl, rfl, rfl, h1, r1⟩ := trodAll_cons r0
    obtain ⟨v2, vs2, d2, ds2, p2, q2, rfl, rfl, rfl, h2, r2⟩ := trodAll_cons r1
    obtain ⟨rfl, rfl, rfl⟩ := trodAll_nil r2
    obtain rfl : args = #[v0, v1, v2] := by cases args; simp_all
    obtain ⟨hw0, hw⟩ := each_weights hw
    obtain ⟨s0, rfl, x0⟩ := open_text (hval 0 9 v0 rfl rfl) h0 hw0
    obtain ⟨hw1, hw⟩ := each_weights hw
    obtain ⟨a1, l1, c1, rfl, x1, n1, m1, z1⟩ := open_texts (hval 1 68 v1 rfl rfl) h1 hw1
    obtain ⟨hw2, hw⟩ := each_weights hw
    obtain ⟨a2, l2, c2, rfl, x2, n2, m2, z2⟩ := open_texts (hval 2 68 v2 rfl rfl) h2 hw2
    exact pwordsL s0 l1 l2 a1 a2 c1 c2 W x0 x1 x2 n1 m1 z1 z2 (maxP_of hsh)

/-- PathWords answers true, whatever it is handed: for every input: the row. -/
theorem pwordsL_row : Rows.PathWordsSaid :=
  OpenClaim.holds_of_wide 9 Tryd.f9 rfl rfl rfl rfl rfl rfl rfl ⟨rfl, rfl, rfl, rfl, rfl⟩ rfl rfl rfl rfl rfl (by kernel_rfl) Tryd.func9 (by kernel_rfl)
    (of_decide_eq_true (by kernel_rfl)) (by unfold Func.isWrapper; first | (rw [if_pos (by decide +kernel)]; kernel_rfl) | (rw [if_neg (by decide +kernel)]; exact ⟨rfl, rfl⟩))
    (fun os started H enc _ => pwordsL_lifted os started H enc)
/-- PathWords answers true, whatever it is handed: the statement: the row with what it lists tied to the text. -/
theorem pwordsL_holds : Rows.PathWordsCardSaid :=
  Claim7.holds_tied_plain_at .later [] [.data, .pinned] true (true, "459c3d60c330bf331c26fde285ee92f51a4a158d8387a76f92c7748abc199153") true pwordsL_row (fun _ h => by cases h) (by kernel_rfl) (fun _ h => by cases h) pathWords_row_tie rfl ⟨rfl, rfl⟩ (by kernel_rfl) rfl
    (fun f fn hf hfn => by
      obtain rfl : f = 9 := Option.some.inj ((show Tryd.prog.funcNamed "mizzen/mizzenlaw02.PathWords" = some 9 by kernel_rfl).symm.trans hf) |>.symm
      obtain rfl : fn = Tryd.f9 := (Option.some.inj (Tryd.func9.symm.trans hfn)).symm
      exact ⟨by kernel_rfl, fun j t ht => by
        rw [Tryd.params9] at ht
        have hm : t ∈ [9, 68] := by simpa using Array.mem_of_getElem? ht
        have hall : ([9, 68].all fun u => !Tryd.prog.wantsStandIn u) = true := by kernel_rfl
        exact (show Tryd.prog.wantsStandIn t = false by simpa using List.all_eq_true.1 hall t hm)⟩)
    (by kernel_rfl)
end Go.Proofs.YtjnbjehcmckdeaaDoor
