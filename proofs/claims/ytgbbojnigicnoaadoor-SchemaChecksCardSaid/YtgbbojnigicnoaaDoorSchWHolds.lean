/- SchemaChecks answers true, whatever it is handed: the statement. -/
import Derived.Test.YtgbbojnigicnoaaDoorSchVW
import Derived.Test.YtgbbojnigicnoaaDoorTied
import Derived.Test.YtgbbojnigicnoaaDoorOpen
import Derived.ProofKit
import Derived.LaidMore
import Derived.OpenShut
import Derived.Stop.Joined
namespace Go.Proofs.YtgbbojnigicnoaaDoor
open Go.ChangeShapes Go.WideShapes Go.ChangeAt Go.WideMaps Go.WideElems Go.RowKit

/-- An array of texts that reads as the table holds the table's texts. -/
theorem cells_of_strsF {H : Type} {enc : TypeId × Value → H} {P : Program} {w : World} {base : Nat} {sp : Nat → Bool} {held : Bool} {fuel : Nat} {t e : TypeId} {n : Nat} {cs : List Value} {zs : List ByteArray} {p : List MemPlace}
    (ht : P.underlying t = some (.array n e)) (he : P.underlying e = some .string) (hce : P.cellsOf e = 1) (hct : P.cellsOf t = n)
    (h : DataW.trod enc P w base sp held fuel t cs = some (.agg (zs.map fun z => .lit (.string z.data.toList)), p)) : cs = zs.map fun z => Value.string z := by
  cases fuel with
  | zero => simp [DataW.trod] at h
  | succ fuel =>
    simp only [DataW.trod, ht, hce, hct, Nat.mul_one] at h
    split at h
    · rename_i hl
      obtain ⟨xs, hm, hx⟩ := Option.map_eq_some_iff.1 h
      have hxs : xs.map (·.1) = zs.map fun z => (DataW.lit (.string z.data.toList) : DataW H) := by
        have := congrArg Prod.fst hx
        simpa using this
      have hxl : xs.length = n := by simpa using Lib.mapM_length hm
      have hzl : zs.length = n := by
        have := congrArg List.length hxs
        simp at this
        omega
      apply List.ext_getElem?
      intro i
      by_cases hi : i < n
      · obtain ⟨b, hb, hf⟩ := Lib.mapM_at hm i i (by simp [hi])
        obtain ⟨z, hc, rfl, _⟩ := DataW.trod_string he hf
        have h1 : cs[i]? = some (.string z) := by
          have := congrArg (·[0]?) hc
          simpa [List.getElem?_take, List.getElem?_drop] using this
        have h2 : (xs.map (·.1))[i]? = some (DataW.lit (.string z.data.toList) : DataW H) := by simp [hb]
        rw [hxs] at h2
        simp only [List.getElem?_map, Option.map_eq_some_iff, DataW.lit.injEq, Lit.string.injEq] at h2
        obtain ⟨z', hz', he'⟩ := h2
        have : z' = z := by exact ByteArray.ext (Array.toList_inj.1 he')
        simp [h1, hz', this]
      · rw [List.getElem?_eq_none (by omega), List.getElem?_eq_none (by simp; omega)]
    · cases h
theorem laid_kinds : (Rows.laid_mizzen_schema_types : DataW Unit) = .agg (kindsW.map fun z => .lit (.string z.data.toList)) := rfl
theorem schV_of {rest : List (String × DataW Unit)} {W : World} (h : laidMet Tryd.prog (("mizzen/schema.types", Rows.laid_mizzen_schema_types) :: rest) W) : SchV W := by
  obtain ⟨ps, ⟨g', t', cs, fuel, p, q, hg', ht', hvar, hd, _, _⟩, _⟩ := h
  obtain rfl := Option.some.inj ((show Tryd.prog.globalNamed "mizzen/schema.types" = some 0 by kernel_rfl).symm.trans hg')
  obtain rfl := Option.some.inj ((show (Tryd.prog.globals[0]?).map (·.type) = some 70 by kernel_rfl).symm.trans ht')
  rw [laid_kinds] at hd
  unfold SchV
  rw [hvar, ← cells_of_strsF (n := 6) (e := 9) (by kernel_rfl) und_s (by kernel_rfl) (by kernel_rfl) hd]
theorem tabs_of {W : World} (h : laidMetH Tryd.prog Rows.schemaChecksRow.laid W) : Tabs W := by
  rw [MakeChecks.laidMetH_plain _ _ _ (by kernel_rfl)] at h
  have h1 : laidMet Tryd.prog (("internal/strconv.uint64pow10", Lib.tabData .u64 Lib.pow10Tab) :: ("mizzen/schema.types", Rows.laid_mizzen_schema_types) :: []) W := laidMet.tail (laidMet.tail h)
  have ht : Lib.TabIs Tryd.prog W "internal/strconv.uint64pow10" .u64 Lib.pow10Tab := Lib.tabIs_of_head (g := 2) (t := 104) (e := 94) (n := 20) (by kernel_rfl) (by kernel_rfl) (by kernel_rfl) (by kernel_rfl) (by kernel_rfl) (by kernel_rfl) h1
  exact ⟨schV_of h1.tail, ht⟩
set_option maxRecDepth 100000 in
theorem schema_lifted (os : Os) (started : os.Started) (H : Type) (enc : TypeId × Value → H) :
    ReturnsInHanded {} Tryd.checked os 3 .any (fun w args => (Rows.schemaChecksSpec.pre enc Tryd.prog Tryd.f3 [] false w args ∧ laidMetH Tryd.prog Rows.schemaChecksRow.laid w) ∧ sizedMet enc Tryd.prog Tryd.f3 (OpenSpec.ofChange Rows.schemaChecksSpec) false w args) (Rows.schemaChecksSpec.post enc Tryd.prog Tryd.f3 false true false false) := by
  refine lifted_tied (s := Rows.schemaChecksSpec) (laid := Rows.schemaChecksRow.laid) os started H enc (by kernel_rfl) Tryd.func3
    (ChangeSpec.witness_shaped (enc := enc) (C := Tryd.checked) (os := os) (X := fun w _ => laidMetH Tryd.prog Rows.schemaChecksRow.laid w) false (World.laidAll Tryd.prog os Rows.schemaChecksRow.laid) #[.agg #[.int .i64 0, .bool false, .int .i64 0, .string ⟨#[]⟩, .slice none 0 0, .slice none 0 0], .agg #[.int .i64 0, .bool false, .int .i64 0, .string ⟨#[]⟩, .slice none 0 0, .slice none 0 0]] 8 (World.laidAll_os _ _ _)
      (World.shaped_of_ZipB (by kernel_rfl) (by kernel_rfl)) (by kernel_rfl) (by kernel_rfl) (by kernel_rfl)
      (by rw [MakeChecks.laidMetH_plain _ _ _ (by kernel_rfl)]; exact laidMet_laidAll _ (by kernel_rfl) (by kernel_rfl)))
    (by kernel_rfl) rfl (by kernel_rfl) Tryd.underlying4 ?_ ?_
  · intro ds h
    match ds, h with
    | [d0, d1], _ => rfl
  · intro W base args ds p hval hA hw hsh hlaid
    rw [Tryd.params3] at hA hval hw
    obtain ⟨v0, vs0, d0, ds0, p0, q0, hargs, rfl, rfl, h0, r0⟩ := trodAll_cons hA
    obtain ⟨v1, vs1, d1, ds1, p1, q1, rfl, rfl, rfl, h1, r1⟩ := trodAll_cons r0
    obtain ⟨rfl, rfl, rfl⟩ := trodAll_nil r1
    obtain rfl : args = #[v0, v1] := by cases args; simp_all
    obtain ⟨hw0, hw⟩ := each_weights hw
    obtain ⟨t0, x0⟩ := open_val (hval 0 25 v0 rfl rfl) h0 hw0
    obtain ⟨hw1, hw⟩ := each_weights hw
    obtain ⟨t1, x1⟩ := open_val (hval 1 25 v1 rfl rfl) h1 hw1
    exact schemaL t0 t1 v0 v1 W x0 x1 (tabs_of hlaid)

/-- SchemaChecks answers true, whatever it is handed: for every input: the row. -/
theorem schema_row : Rows.SchemaChecksSaid :=
  OpenClaim.holds_of_wide 3 Tryd.f3 rfl rfl rfl rfl rfl rfl rfl ⟨rfl, rfl, rfl, rfl, rfl⟩ rfl rfl rfl rfl rfl (by kernel_rfl) Tryd.func3 (by kernel_rfl)
    (of_decide_eq_true (by kernel_rfl)) (by unfold Func.isWrapper; first | (rw [if_pos (by decide +kernel)]; kernel_rfl) | (rw [if_neg (by decide +kernel)]; exact ⟨rfl, rfl⟩))
    (fun os started H enc _ => schema_lifted os started H enc)
/-- SchemaChecks answers true, whatever it is handed: the statement: the row with what it lists tied to the text. -/
theorem schema_holds : Rows.SchemaChecksCardSaid :=
  Claim7.holds_tied_plain_at .later [] [.data, .data, .data, .widerDeep] true (true, "1219882b82d5ed5d4703a2e2d48212f4f02241f30f4b9ee020a5aa956cdc34e6") false schema_row (fun _ h => by cases h) (by kernel_rfl) (fun _ h => by cases h) schemaChecks_row_tie rfl ⟨rfl, rfl⟩ (by kernel_rfl) rfl
    (fun f fn hf hfn => by
      obtain rfl : f = 3 := Option.some.inj ((show Tryd.prog.funcNamed "mizzen/mizzenlaw25.SchemaChecks" = some 3 by kernel_rfl).symm.trans hf) |>.symm
      obtain rfl : fn = Tryd.f3 := (Option.some.inj (Tryd.func3.symm.trans hfn)).symm
      exact ⟨by kernel_rfl, fun j t ht => by
        rw [Tryd.params3] at ht
        have hm : t ∈ [25, 25] := by simpa using Array.mem_of_getElem? ht
        have hall : ([25, 25].all fun u => !Tryd.prog.wantsStandIn u) = true := by kernel_rfl
        exact (show Tryd.prog.wantsStandIn t = false by simpa using List.all_eq_true.1 hall t hm)⟩)
    (by kernel_rfl)
end Go.Proofs.YtgbbojnigicnoaaDoor
