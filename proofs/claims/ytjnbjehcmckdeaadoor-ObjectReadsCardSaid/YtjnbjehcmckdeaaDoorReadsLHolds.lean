/- ObjectReads answers true, whatever it is handed: the statement. -/
import Derived.Test.YtjnbjehcmckdeaaDoorReadB
import Derived.Test.YtjnbjehcmckdeaaDoorObjH
namespace Go.Proofs.YtjnbjehcmckdeaaDoor
open Go.ChangeShapes Go.WideShapes Go.ChangeAt Go.WideMaps Go.WideElems Go.RowKit

theorem maxP_ofR {W : World} (h : W.ShapedOpen Tryd.prog) : MaxP W := Tryd.laysM143.s1_3 W h
theorem objV_vars {rest : List (String × DataW Unit)} {W : World} {ps : List MemPlace} (h : DataW.LaidVars Tryd.prog W (("mizzen/object.order", Rows.laid_mizzen_object_order) :: rest) ps) : ObjV W := by
  obtain ⟨g', t', cs, fuel, p, q, hg', ht', hvar, hd, _, _⟩ := h
  obtain rfl := Option.some.inj ((show Tryd.prog.globalNamed "mizzen/object.order" = some 0 by kernel_rfl).symm.trans hg')
  obtain rfl := Option.some.inj ((show (Tryd.prog.globals[0]?).map (·.type) = some 84 by kernel_rfl).symm.trans ht')
  rw [laid_order] at hd
  unfold ObjV
  rw [hvar, ← cells_of_strs (n := 10) (e := 9) (by kernel_rfl) und_s (by kernel_rfl) (by kernel_rfl) hd]
theorem reads_obj {W : World} (h : laidMetH Tryd.prog Rows.objectReadsRow.laid W) : ObjV W := by
  rw [MakeChecks.laidMetH_plain _ _ _ (by kernel_rfl)] at h
  obtain ⟨_, ⟨_, _, _, _, _, _, _, _, _, _, hr, _⟩, _⟩ := h
  exact objV_vars hr
set_option maxRecDepth 100000 in
theorem reads_lifted (os : Os) (started : os.Started) (H : Type) (enc : TypeId × Value → H) :
    ReturnsInHanded {} Tryd.checked os 5 .any (fun w args => (Rows.objectReadsSpec.pre enc Tryd.prog Tryd.f5 [] false w args ∧ laidMetH Tryd.prog Rows.objectReadsRow.laid w) ∧ sizedMet enc Tryd.prog Tryd.f5 (OpenSpec.ofChange Rows.objectReadsSpec) false w args) (Rows.objectReadsSpec.post enc Tryd.prog Tryd.f5 false true false false) := by
  refine lifted_tied (s := Rows.objectReadsSpec) (laid := Rows.objectReadsRow.laid) os started H enc (by kernel_rfl) Tryd.func5
    (ChangeSpec.witness_shaped (enc := enc) (C := Tryd.checked) (os := os) (X := fun w _ => laidMetH Tryd.prog Rows.objectReadsRow.laid w) false (World.laidAll Tryd.prog os Rows.objectReadsRow.laid) #[.agg #[.int .i64 0, .bool false, .int .i64 0, .string ⟨#[]⟩, .slice none 0 0, .slice none 0 0], .string ⟨#[]⟩] 8 (World.laidAll_os _ _ _)
      (World.shaped_of_ZipB (by kernel_rfl) (by kernel_rfl)) (by kernel_rfl) (by kernel_rfl) (by kernel_rfl)
      (by rw [MakeChecks.laidMetH_plain _ _ _ (by kernel_rfl)]; exact laidMet_laidAll _ (by kernel_rfl) (by kernel_rfl)))
    (by kernel_rfl) rfl (by kernel_rfl) Tryd.underlying4 ?_ ?_
  · intro ds h
    match ds, h with
    | [d0, d1], _ => rfl
  · intro W base args ds p hval hA hw hsh hlaid
    rw [Tryd.params5] at hA hval hw
    obtain ⟨v0, vs0, d0, ds0, p0, q0, hargs, rfl, rfl, h0, r0⟩ := trodAll_cons hA
    obtain ⟨v1, vs1, d1, ds1, p1, q1, rfl, rfl, rfl, h1, r1⟩ := trodAll_cons r0
    obtain ⟨rfl, rfl, rfl⟩ := trodAll_nil r1
    obtain rfl : args = #[v0, v1] := by cases args; simp_all
    obtain ⟨hw0, hw⟩ := each_weights hw
    obtain ⟨t0, x0⟩ := open_val (hval 0 38 v0 rfl rfl) h0 hw0
    obtain ⟨hw1, hw⟩ := each_weights hw
    obtain ⟨s1, rfl, x1⟩ := open_text (hval 1 9 v1 rfl rfl) h1 hw1
    exact readsL t0 s1 v0 W x0 (maxP_ofR hsh) (reads_obj hlaid)

/-- ObjectReads answers true, whatever it is handed: for every input: the row. -/
theorem reads_row : Rows.ObjectReadsSaid :=
  OpenClaim.holds_of_wide 5 Tryd.f5 rfl rfl rfl rfl rfl rfl rfl ⟨rfl, rfl, rfl, rfl, rfl⟩ rfl rfl rfl rfl rfl (by kernel_rfl) Tryd.func5 (by kernel_rfl)
    (of_decide_eq_true (by kernel_rfl)) (by unfold Func.isWrapper; first | (rw [if_pos (by decide +kernel)]; kernel_rfl) | (rw [if_neg (by decide +kernel)]; exact ⟨rfl, rfl⟩))
    (fun os started H enc _ => reads_lifted os started H enc)
/-- ObjectReads answers true, whatever it is handed: the statement: the row with what it lists tied to the text. -/
theorem reads_holds : Rows.ObjectReadsCardSaid :=
  Claim7.holds_tied_plain_at .later [] [.data, .widerDeep, .pinned] true (true, "459c3d60c330bf331c26fde285ee92f51a4a158d8387a76f92c7748abc199153") true reads_row (fun _ h => by cases h) (by kernel_rfl) (fun _ h => by cases h) objectReads_row_tie rfl ⟨rfl, rfl⟩ (by kernel_rfl) rfl
    (fun f fn hf hfn => by
      obtain rfl : f = 5 := Option.some.inj ((show Tryd.prog.funcNamed "mizzen/mizzenlaw12.ObjectReads" = some 5 by kernel_rfl).symm.trans hf) |>.symm
      obtain rfl : fn = Tryd.f5 := (Option.some.inj (Tryd.func5.symm.trans hfn)).symm
      exact ⟨by kernel_rfl, fun j t ht => by
        rw [Tryd.params5] at ht
        have hm : t ∈ [38, 9] := by simpa using Array.mem_of_getElem? ht
        have hall : ([38, 9].all fun u => !Tryd.prog.wantsStandIn u) = true := by kernel_rfl
        exact (show Tryd.prog.wantsStandIn t = false by simpa using List.all_eq_true.1 hall t hm)⟩)
    (by kernel_rfl)
end Go.Proofs.YtjnbjehcmckdeaaDoor
