/- ObjectFinds answers true, whatever it is handed: the statement. -/
import Derived.Test.YtdgeegfoocoohaaDoorFinds
import Derived.Test.YtdgeegfoocoohaaDoorOpenO
namespace Go.Proofs.YtdgeegfoocoohaaDoor
open Go.ChangeShapes Go.WideShapes Go.ChangeAt Go.WideMaps Go.WideElems Go.RowKit

theorem finds_obj {W : World} (h : laidMetH Tryd.prog Rows.objectFindsRow.laid W) : ObjV W := by
  rw [MakeChecks.laidMetH_plain _ _ _ (by kernel_rfl)] at h
  exact objV_of h
set_option maxRecDepth 100000 in
theorem finds_lifted (os : Os) (started : os.Started) (H : Type) (enc : TypeId × Value → H) :
    ReturnsInHanded {} Tryd.checked os 3 .any (fun w args => (Rows.objectFindsSpec.pre enc Tryd.prog Tryd.f3 [] false w args ∧ laidMetH Tryd.prog Rows.objectFindsRow.laid w) ∧ sizedMet enc Tryd.prog Tryd.f3 (OpenSpec.ofChange Rows.objectFindsSpec) false w args) (Rows.objectFindsSpec.post enc Tryd.prog Tryd.f3 false true false false) := by
  refine lifted_tied (s := Rows.objectFindsSpec) (laid := Rows.objectFindsRow.laid) os started H enc (by kernel_rfl) Tryd.func3
    (ChangeSpec.witness_shaped (enc := enc) (C := Tryd.checked) (os := os) (X := fun w _ => laidMetH Tryd.prog Rows.objectFindsRow.laid w) false (World.laidAll Tryd.prog os Rows.objectFindsRow.laid) #[.slice none 0 0] 8 (World.laidAll_os _ _ _)
      (World.shaped_of_ZipB (by kernel_rfl) (by kernel_rfl)) (by kernel_rfl) (by kernel_rfl) (by kernel_rfl)
      (by rw [MakeChecks.laidMetH_plain _ _ _ (by kernel_rfl)]; exact laidMet_laidAll _ (by kernel_rfl) (by kernel_rfl)))
    (by kernel_rfl) rfl (by kernel_rfl) Tryd.underlying4 ?_ ?_
  · intro ds h
    match ds, h with
    | [d0], _ => rfl
  · intro W base args ds p hval hA hw hsh hlaid
    rw [Tryd.params3] at hA hval hw
    obtain ⟨v0, vs0, d0, ds0, p0, q0, hargs, rfl, rfl, h0, r0⟩ := trodAll_cons hA
    obtain ⟨rfl, rfl, rfl⟩ := trodAll_nil r0
    obtain rfl : args = #[v0] := by cases args; simp_all
    obtain ⟨hw0, hw⟩ := each_weights hw
    obtain ⟨a0, l0, c0, rfl, x0, n0, m0, z0⟩ := open_objs (hval 0 22 v0 rfl rfl) h0 hw0
    exact findsL l0 a0 c0 W x0 (by omega) (finds_obj hlaid)

/-- ObjectFinds answers true, whatever it is handed: for every input: the row. -/
theorem finds_row : Rows.ObjectFindsSaid :=
  OpenClaim.holds_of_wide 3 Tryd.f3 rfl rfl rfl rfl rfl rfl rfl ⟨rfl, rfl, rfl, rfl, rfl⟩ rfl rfl rfl rfl rfl (by kernel_rfl) Tryd.func3 (by kernel_rfl)
    (of_decide_eq_true (by kernel_rfl)) (by unfold Func.isWrapper; first | (rw [if_pos (by decide +kernel)]; kernel_rfl) | (rw [if_neg (by decide +kernel)]; exact ⟨rfl, rfl⟩))
    (fun os started H enc _ => finds_lifted os started H enc)
/-- ObjectFinds answers true, whatever it is handed: the statement: the row with what it lists tied to the text. -/
theorem finds_holds : Rows.ObjectFindsCardSaid :=
  Claim7.holds_tied_plain_at .later [] [.widerDeep] true (true, "4e0197720f9c0c935d817d792e80c29dfaf9eeb556aebbcee2ffcc3d30caf10e") false finds_row (fun _ h => by cases h) (by kernel_rfl) (fun _ h => by cases h) objectFinds_row_tie rfl ⟨rfl, rfl⟩ (by kernel_rfl) rfl
    (fun f fn hf hfn => by
      obtain rfl : f = 3 := Option.some.inj ((show Tryd.prog.funcNamed "mizzen/mizzenlaw12.ObjectFinds" = some 3 by kernel_rfl).symm.trans hf) |>.symm
      obtain rfl : fn = Tryd.f3 := (Option.some.inj (Tryd.func3.symm.trans hfn)).symm
      exact ⟨by kernel_rfl, fun j t ht => by
        rw [Tryd.params3] at ht
        have hm : t ∈ [22] := by simpa using Array.mem_of_getElem? ht
        have hall : ([22].all fun u => !Tryd.prog.wantsStandIn u) = true := by kernel_rfl
        exact (show Tryd.prog.wantsStandIn t = false by simpa using List.all_eq_true.1 hall t hm)⟩)
    (by kernel_rfl)
end Go.Proofs.YtdgeegfoocoohaaDoor
