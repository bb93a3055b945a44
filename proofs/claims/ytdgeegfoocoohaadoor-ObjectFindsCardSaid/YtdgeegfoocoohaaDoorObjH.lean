/- What the tied rows of object say of the world; an ID that came in. -/
import Derived.Test.YtdgeegfoocoohaaDoorTied
import Derived.Test.YtdgeegfoocoohaaDoorObjWR
import Derived.Test.YtdgeegfoocoohaaDoorOpen
import Derived.ProofKit
import Derived.LaidMore
import Derived.OpenShut
import Derived.Stop.Joined
namespace Go.Proofs.YtdgeegfoocoohaaDoor
open Go.ChangeShapes Go.WideShapes Go.ChangeAt Go.WideMaps Go.WideElems Go.RowKit

theorem id_fields : fieldsOf Tryd.prog 29 = some [(9, 0), (9, 1), (9, 2)] := by kernel_rfl
theorem id_cells : Tryd.prog.cellsOf 29 = 3 := by kernel_rfl
theorem str_cells : Tryd.prog.cellsOf 9 = 1 := by kernel_rfl
set_option maxRecDepth 100000 in
theorem open_id {H : Type} {enc : TypeId × Value → H} {W : World} {r : Reach} {b0 : Nat} {v : Value} {d : DataW H} {p : List MemPlace} (hv : Value.okWide Tryd.prog W r b0 29 v) (h : DataW.Trod enc Tryd.prog W 0 (fun _ => true) true 29 v d p)
    (hw : (d.weights Tryd.prog 29).all (· ≤ reachBytes) = true) : ∃ a : ID3, v = .agg #[.string a.k, .string a.s, .string a.n] ∧ a.k.size ≤ 140737488351232 ∧ a.s.size ≤ 140737488351232 ∧ a.n.size ≤ 140737488351232 := by
  have hu : ∃ fs, Tryd.prog.underlying 29 = some (.struct fs) := by
    have := id_fields
    unfold fieldsOf at this
    cases hd : Tryd.prog.underlying 29 with
    | none => rw [hd] at this; cases this
    | some d =>
      rw [hd] at this
      cases d with
      | struct fs => exact ⟨fs, rfl⟩
      | _ => simp at this
  obtain ⟨fs, hu⟩ := hu
  obtain ⟨cs, rfl, _⟩ := okWide_struct hu hv
  obtain ⟨fuel, hf⟩ := h
  obtain ⟨xs, n, rfl, -, hwe, hlen, hxl, hx⟩ := trod_fields id_fields hf
  rw [id_cells] at hlen
  rw [show (d, p).1.weights Tryd.prog 29 = d.weights Tryd.prog 29 from rfl] at hwe
  rw [hwe] at hw
  obtain ⟨cs⟩ := cs
  match cs, hlen with
  | [c0, c1, c2], _ =>
  match xs, hxl with
  | [y0, y1, y2], _ =>
  have h0 := hx 0 _ rfl
  have h1 := hx 1 _ rfl
  have h2 := hx 2 _ rfl
  simp only [str_cells] at h0 h1 h2
  obtain ⟨s0, e0, z0, -⟩ := DataW.trod_string und_s h0
  obtain ⟨s1, e1, z1, -⟩ := DataW.trod_string und_s h1
  obtain ⟨s2, e2, z2, -⟩ := DataW.trod_string und_s h2
  simp only [List.map_cons, List.map_nil, DataW.weightsEach] at hw
  obtain ⟨w0, hw⟩ := all_append hw
  obtain ⟨w1, hw⟩ := all_append hw
  obtain ⟨w2, -⟩ := all_append hw
  rw [z0] at w0
  rw [z1] at w1
  rw [z2] at w2
  simp [DataW.weights, reachBytes] at w0 w1 w2
  simp [Value.cells] at e0 e1 e2
  subst e0 e1 e2
  exact ⟨⟨s0, s1, s2⟩, rfl, of_decide_eq_true w0, of_decide_eq_true w1, of_decide_eq_true w2⟩

/-- An array of texts that reads as the table holds the table's texts. -/
theorem cells_of_strs {H : Type} {enc : TypeId × Value → H} {P : Program} {w : World} {base : Nat} {sp : Nat → Bool} {held : Bool} {fuel : Nat} {t e : TypeId} {n : Nat} {cs : List Value} {zs : List ByteArray} {p : List MemPlace}
    (ht : P.underlying t = some (.array n e)) (he : P.underlying e = some .string) (hce : P.cellsOf e = 1) (hct : P.cellsOf t = n)
    (h : DataW.trod enc P w base sp held fuel t cs = some (.agg (zs.map fun z => .lit (.string z.data.toList)), p)) : cs = zs.map fun z => Value.string z := by
  cases fuel with
  | zero => simp [DataW.trod] at h
  | succ fuel =>
    simp only [DataW.trod, ht, hce, hct, Nat.mul_one] at h
    split at h
    · rename_i hl
      obtain ⟨xs, hm, hx⟩ := Option.map_eq_some_iff.1 h
      have hxs : xs.map (·.1) = zs.map fun z => (DataW.lit (.string z.data.toList) : DataW H) := by
        have := congrArg Prod.fst hx
        simpa using this
      have hxl : xs.length = n := by simpa using Lib.mapM_length hm
      have hzl : zs.length = n := by
        have := congrArg List.length hxs
        simp at this
        omega
      apply List.ext_getElem?
      intro i
      by_cases hi : i < n
      · obtain ⟨b, hb, hf⟩ := Lib.mapM_at hm i i (by simp [hi])
        obtain ⟨z, hc, rfl, _⟩ := DataW.trod_string he hf
        have h1 : cs[i]? = some (.string z) := by
          have := congrArg (·[0]?) hc
          simpa [List.getElem?_take, List.getElem?_drop] using this
        have h2 : (xs.map (·.1))[i]? = some (DataW.lit (.string z.data.toList) : DataW H) := by simp [hb]
        rw [hxs] at h2
        simp only [List.getElem?_map, Option.map_eq_some_iff, DataW.lit.injEq, Lit.string.injEq] at h2
        obtain ⟨z', hz', he'⟩ := h2
        have : z' = z := list_ext he'
        simp [h1, hz', this]
      · rw [List.getElem?_eq_none (by omega), List.getElem?_eq_none (by simp; omega)]
    · cases h
theorem laid_order : (Rows.laid_mizzen_object_order : DataW Unit) = .agg (orderW.map fun z => .lit (.string z.data.toList)) := rfl
theorem objV_of {rest : List (String × DataW Unit)} {W : World} (h : laidMet Tryd.prog (("mizzen/object.order", Rows.laid_mizzen_object_order) :: rest) W) : ObjV W := by
  obtain ⟨ps, ⟨g', t', cs, fuel, p, q, hg', ht', hvar, hd, _, _⟩, _⟩ := h
  obtain rfl := Option.some.inj ((show Tryd.prog.globalNamed "mizzen/object.order" = some 0 by kernel_rfl).symm.trans hg')
  obtain rfl := Option.some.inj ((show (Tryd.prog.globals[0]?).map (·.type) = some 76 by kernel_rfl).symm.trans ht')
  rw [laid_order] at hd
  unfold ObjV
  rw [hvar, ← cells_of_strs (n := 10) (e := 9) (by kernel_rfl) und_s (by kernel_rfl) (by kernel_rfl) hd]
end Go.Proofs.YtdgeegfoocoohaaDoor
