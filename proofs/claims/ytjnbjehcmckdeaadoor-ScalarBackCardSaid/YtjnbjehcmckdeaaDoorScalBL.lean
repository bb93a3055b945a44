/- ScalarBack answers true for every input (printed by gen/laws04.py). -/
import Derived.Test.YtjnbjehcmckdeaaDoorScalWL
import Derived.Test.YtjnbjehcmckdeaaDoorScalQC
import Derived.Deep.RegionHeld3
import Derived.Deep.DrawnRows
namespace Go.Proofs.YtjnbjehcmckdeaaDoor
open Go.RowKit
attribute [local go_sem ↓] Go.wp_at_zero Go.wp_at_succ

theorem printL_small {t : T} {r : ByteArray} (h : Good t) (hk : t.kind < 4) (hn : i64ok t.int) (hr : printL t = r.data.toList) : r.size ≤ 20000 := by
  rw [size_list, ← hr]
  obtain ⟨a, b, -⟩ := h.leaf
  have hz : t.kind = 0 ∨ t.kind = 1 ∨ t.kind = 2 ∨ t.kind = 3 := by omega
  rcases hz with e | e | e | e
  · simp [printL, e, nullW]
  · cases hb : t.bool <;> simp [printL, e, hb, trueW, falseW]
  · have : printL t = Lib.itoa t.int := by simp [printL, e]
    rw [this]
    have h2 := dec_len 19 t.int.natAbs (by unfold i64ok at hn; omega)
    by_cases hneg : t.int < 0
    · rw [itoa_neg hneg]; simp; omega
    · rw [itoa_pos hneg]; omega
  · have hs := h.small
    have h1 := escL_len t.str.data.toList
    rw [size_list] at hs
    cases hq : bareL t.str.data.toList with
    | true => rw [print_bare e hq]; omega
    | false => rw [print_quote e hq, quoteL]; simp; omega
set_option maxRecDepth 100000 in
set_option maxHeartbeats 16000000 in
theorem backL (v : T) (vv : Value) (w : World) (hv : RepT w (fun _ => True) vv v) (hsc : ScalV w) : Calls Tryd.prog 11 #[vv] w fun e w' => e = .returned (.bool true) ∧ Below w.heap.size w w' := by
  have HV := Lib.hid hsc
  clear hsc
  have HI := Lib.hid (show i64ok v.int from by obtain ⟨_, _, _, _, -, h⟩ := hv.inv; exact h.2.1)
  have e00 : (⟨#[]⟩ : ByteArray).toList.isEmpty = true := by rw [ByteArray.toList_eq]; rfl
  obtain ⟨la, lc, ma, mc, rfl, -⟩ := hv.inv
  have H_v := Lib.hid hv
  clear hv
  go_enter Tryd.func11, Tryd.ntmps11
  go_wp2_with fail
  refine (right [v] _ (fun _ => True) _ 1 (repE_L.1 (rep_block (E := eltV) (S := fun _ => True) (l := [v]) [[.int .i64 v.kind, .bool v.bool, .int .i64 v.int, .string v.str, .slice la v.list.length lc, .slice ma v.map.length mc]] (Blk.new_at (w.alloc (.cells #[.int .i64 v.kind, .bool v.bool, .int .i64 v.int, .string v.str, .slice la v.list.length lc, .slice ma v.map.length mc] 38)) 38 #[.int .i64 v.kind, .bool v.bool, .int .i64 v.int, .string v.str, .slice la v.list.length lc, .slice ma v.map.length mc] (n := w.heap.size + 1) (by simp)) rfl trivial ⟨(H_v.out.keep (by exact (Below.new _ _).alloc (by simp) _)), trivial⟩)) (by simp)).mono ?_
  rintro e w1 ⟨r, rfl, hr, hb⟩
  have HD1 := Lib.hid (show Below w.heap.size w w1 from Below.next ((Below.new _ _).alloc (by simp) _) hb)
  have L1_0 := Lib.hid (((Blk.new w 38 #[.int .i64 v.kind, .bool v.bool, .int .i64 v.int, .string v.str, .slice la v.list.length lc, .slice ma v.map.length mc]).alloc (.cells #[.int .i64 v.kind, .bool v.bool, .int .i64 v.int, .string v.str, .slice la v.list.length lc, .slice ma v.map.length mc] 38)).keep hb)
  have V1_v := Lib.hid (H_v.out.keep HD1.out)
  have HW1 := Lib.hid (show Below w.heap.size w w1 from HD1.out)
  clear hb HD1 H_v
  have k1_0 := L1_0.out.cell
  have l1_0 := L1_0.out.lt
  have HGR := Lib.hid hr
  clear hr
  cases r
  · go_wp2_with (go_at_call 29; refine (awake4 _ (HV.out.keep HW1.out)).mono ?_; rintro e w9 ⟨rfl, hb9⟩)
    go_ret
    exact ⟨rfl, Below.next HW1.out hb9⟩
  have HG := Lib.hid (HGR.out rfl v (by simp))
  have HS := Lib.hid (show v.str.size ≤ 6000 by exact HG.out.small)
  clear HGR
  by_cases h4 : (4 : Int) ≤ v.kind
  · go_wp2_with (go_at_call 29; refine (awake4 _ (HV.out.keep HW1.out)).mono ?_; rintro e w9 ⟨rfl, hb9⟩)
    go_ret
    exact ⟨rfl, Below.next HW1.out hb9⟩
  have h4 : v.kind < 4 := by omega
  obtain ⟨pr, hpr⟩ : ∃ r : ByteArray, printL v = r.data.toList := ⟨⟨(printL v).toArray⟩, rfl⟩
  have CP := Lib.hid (tprint_call hpr (by have := HS.out; omega))
  have hcase : (v.kind == 3) = false ∧ Hid (parseT pr = some v) ∧ Hid (pr.size ≤ 20000) ∨ ((v.kind == 3) = true ∧ Hid (unqL pr.data.toList = none) ∧ Hid (parseT pr = some v) ∧ Hid (pr.size ≤ 20000)) ∨ ((v.kind == 3) = true ∧ Hid (unqL pr.data.toList = some (v.str.data.toList, (⟨#[]⟩ : ByteArray).data.toList)) ∧ Hid (bareL v.str.data.toList = false) ∧ Hid (pr.size ≤ 20000)) := by
    have hz := printL_small HG.out h4 HI.out hpr
    by_cases h3 : v.kind = 3
    · cases hq : bareL v.str.data.toList with
      | true =>
        exact .inr (.inl ⟨by rw [h3]; rfl, Lib.hid (unq_bare (by rw [← hpr, print_bare h3 hq]; exact hq)), Lib.hid (print_back HG.out h4 HI.out hpr.symm (fun _ => hq)), Lib.hid hz⟩)
      | false =>
        refine .inr (.inr ⟨by rw [h3]; rfl, Lib.hid ?_, Lib.hid rfl, Lib.hid hz⟩)
        rw [← hpr, print_quote h3 hq]
        have := unq_quote v.str.data.toList []
        rw [List.append_nil] at this
        exact this
    · exact .inl ⟨by rw [beq_eq_false_iff_ne]; exact h3, Lib.hid (print_back HG.out h4 HI.out hpr.symm (fun e => absurd e h3)), Lib.hid hz⟩
  clear hpr
  go_wp2_with fail
  refine (CP.out _ _ (fun _ => True) (V1_v.out) (HV.out.keep (by exact HW1.out))).mono ?_
  rintro e w2 ⟨rfl, hb⟩
  have HD2 := Lib.hid (show Below w1.heap.size w1 w2 from hb)
  have L2_0 := Lib.hid (L1_0.out.keep HD2.out)
  have V2_v := Lib.hid (V1_v.out.keep HD2.out)
  have HW2 := Lib.hid (Below.next HW1.out HD2.out)
  clear k1_0 l1_0 hb HD2 L1_0 V1_v HW1
  have k2_0 := L2_0.out.cell
  have l2_0 := L2_0.out.lt
  rcases hcase with ⟨g3, hp, hz⟩ | ⟨g3, hu, hp, hz⟩ | ⟨g3, hu, hbare, hz⟩
  · go_wp2_with fail
    refine (parse_call hp.out (by have := hz.out; omega) _ (HV.out.keep (by exact HW2.out))).mono ?_
    rintro e w3 ⟨v3, rfl, hr0, hb⟩
    have hr := hr0 w3 (fun _ => True)
    clear hr0
    obtain ⟨qa3, qc3, qm3, qn3, rfl, -⟩ := hr.inv
    have N3 := Lib.hid (hr.any)
    clear hr
    have HD3 := Lib.hid (show Below w2.heap.size w2 w3 from hb)
    have L3_0 := Lib.hid (L2_0.out.keep HD3.out)
    have V3_v := Lib.hid (V2_v.out.keep HD3.out)
    have HW3 := Lib.hid (Below.next HW2.out HD3.out)
    clear k2_0 l2_0 hb HD3 L2_0 V2_v HW2
    have k3_0 := L3_0.out.cell
    have l3_0 := L3_0.out.lt
    go_wp2_with fail
    obtain ⟨w4, hwz⟩ : ∃ x, x = (w3.alloc (.cells #[.int .i64 v.kind, .bool v.bool, .int .i64 v.int, .string v.str, .slice qa3 v.list.length qc3, .slice qm3 v.map.length qn3] 38)) := ⟨_, rfl⟩
    have hb : Below (w3.alloc (.cells #[.int .i64 v.kind, .bool v.bool, .int .i64 v.int, .string v.str, .slice qa3 v.list.length qc3, .slice qm3 v.map.length qn3] 38)).heap.size (w3.alloc (.cells #[.int .i64 v.kind, .bool v.bool, .int .i64 v.int, .string v.str, .slice qa3 v.list.length qc3, .slice qm3 v.map.length qn3] 38)) w4 := by rw [hwz]; exact Below.refl _ _
    rw [← hwz]
    clear hwz
    have HD4 := Lib.hid (show Below w3.heap.size w3 w4 from Below.next (Below.new _ _) hb)
    have L4_0 := Lib.hid (L3_0.out.keep HD4.out)
    have L4_1 := Lib.hid ((Blk.new w3 38 #[.int .i64 v.kind, .bool v.bool, .int .i64 v.int, .string v.str, .slice qa3 v.list.length qc3, .slice qm3 v.map.length qn3]).keep hb)
    have V4_v := Lib.hid (V3_v.out.keep HD4.out)
    have V4_x := Lib.hid (N3.out.keep HD4.out)
    have HW4 := Lib.hid (Below.next HW3.out HD4.out)
    clear k3_0 l3_0 hb HD4 L3_0 V3_v N3 HW3
    have k4_0 := L4_0.out.cell
    have l4_0 := L4_0.out.lt
    have k4_1 := L4_1.out.cell
    have l4_1 := L4_1.out.lt
    go_wp2_with fail
    refine (awake4 _ (HV.out.keep (by exact HW4.out))).mono ?_
    rintro e w5 ⟨rfl, hb⟩
    have HD5 := Lib.hid (show Below w4.heap.size w4 w5 from hb)
    have L5_0 := Lib.hid (L4_0.out.keep HD5.out)
    have L5_1 := Lib.hid (L4_1.out.keep HD5.out)
    have V5_v := Lib.hid (V4_v.out.keep HD5.out)
    have V5_x := Lib.hid (V4_x.out.keep HD5.out)
    have HW5 := Lib.hid (Below.next HW4.out HD5.out)
    clear k4_0 l4_0 k4_1 l4_1 hb HD5 L4_0 L4_1 V4_v V4_x HW4
    have k5_0 := L5_0.out.cell
    have l5_0 := L5_0.out.lt
    have k5_1 := L5_1.out.cell
    have l5_1 := L5_1.out.lt
    go_wp2_with fail
    refine (rsame_true (a := v) (b := v) rfl _ (fun _ => True) (fun _ => True) _ _ (V5_x.out) (V5_v.out)).mono ?_
    rintro e w6 ⟨rfl, hb⟩
    have HD6 := Lib.hid (show Below w5.heap.size w5 w6 from hb)
    have L6_0 := Lib.hid (L5_0.out.keep HD6.out)
    have L6_1 := Lib.hid (L5_1.out.keep HD6.out)
    have V6_v := Lib.hid (V5_v.out.keep HD6.out)
    have V6_x := Lib.hid (V5_x.out.keep HD6.out)
    have HW6 := Lib.hid (Below.next HW5.out HD6.out)
    clear k5_0 l5_0 k5_1 l5_1 hb HD6 L5_0 L5_1 V5_v V5_x HW5
    have k6_0 := L6_0.out.cell
    have l6_0 := L6_0.out.lt
    have k6_1 := L6_1.out.cell
    have l6_1 := L6_1.out.lt
    go_wp2_with fail
    go_ret
    exact ⟨rfl, HW6.out⟩
  · go_wp2_with fail
    refine (unq_none hu.out (by have := hz.out; omega) _).mono ?_
    rintro e w3 ⟨rfl, hb⟩
    have HD3 := Lib.hid (show Below w2.heap.size w2 w3 from hb)
    have L3_0 := Lib.hid (L2_0.out.keep HD3.out)
    have V3_v := Lib.hid (V2_v.out.keep HD3.out)
    have HW3 := Lib.hid (Below.next HW2.out HD3.out)
    clear k2_0 l2_0 hb HD3 L2_0 V2_v HW2
    have k3_0 := L3_0.out.cell
    have l3_0 := L3_0.out.lt
    go_wp2_with fail
    refine (parse_call hp.out (by have := hz.out; omega) _ (HV.out.keep (by exact HW3.out))).mono ?_
    rintro e w4 ⟨v4, rfl, hr0, hb⟩
    have hr := hr0 w4 (fun _ => True)
    clear hr0
    obtain ⟨qa4, qc4, qm4, qn4, rfl, -⟩ := hr.inv
    have N4 := Lib.hid (hr.any)
    clear hr
    have HD4 := Lib.hid (show Below w3.heap.size w3 w4 from hb)
    have L4_0 := Lib.hid (L3_0.out.keep HD4.out)
    have V4_v := Lib.hid (V3_v.out.keep HD4.out)
    have HW4 := Lib.hid (Below.next HW3.out HD4.out)
    clear k3_0 l3_0 hb HD4 L3_0 V3_v HW3
    have k4_0 := L4_0.out.cell
    have l4_0 := L4_0.out.lt
    go_wp2_with fail
    obtain ⟨w5, hwz⟩ : ∃ x, x = (w4.alloc (.cells #[.int .i64 v.kind, .bool v.bool, .int .i64 v.int, .string v.str, .slice qa4 v.list.length qc4, .slice qm4 v.map.length qn4] 38)) := ⟨_, rfl⟩
    have hb : Below (w4.alloc (.cells #[.int .i64 v.kind, .bool v.bool, .int .i64 v.int, .string v.str, .slice qa4 v.list.length qc4, .slice qm4 v.map.length qn4] 38)).heap.size (w4.alloc (.cells #[.int .i64 v.kind, .bool v.bool, .int .i64 v.int, .string v.str, .slice qa4 v.list.length qc4, .slice qm4 v.map.length qn4] 38)) w5 := by rw [hwz]; exact Below.refl _ _
    rw [← hwz]
    clear hwz
    have HD5 := Lib.hid (show Below w4.heap.size w4 w5 from Below.next (Below.new _ _) hb)
    have L5_0 := Lib.hid (L4_0.out.keep HD5.out)
    have L5_1 := Lib.hid ((Blk.new w4 38 #[.int .i64 v.kind, .bool v.bool, .int .i64 v.int, .string v.str, .slice qa4 v.list.length qc4, .slice qm4 v.map.length qn4]).keep hb)
    have V5_v := Lib.hid (V4_v.out.keep HD5.out)
    have V5_x := Lib.hid (N4.out.keep HD5.out)
    have HW5 := Lib.hid (Below.next HW4.out HD5.out)
    clear k4_0 l4_0 hb HD5 L4_0 V4_v N4 HW4
    have k5_0 := L5_0.out.cell
    have l5_0 := L5_0.out.lt
    have k5_1 := L5_1.out.cell
    have l5_1 := L5_1.out.lt
    go_wp2_with fail
    refine (awake4 _ (HV.out.keep (by exact HW5.out))).mono ?_
    rintro e w6 ⟨rfl, hb⟩
    have HD6 := Lib.hid (show Below w5.heap.size w5 w6 from hb)
    have L6_0 := Lib.hid (L5_0.out.keep HD6.out)
    have L6_1 := Lib.hid (L5_1.out.keep HD6.out)
    have V6_v := Lib.hid (V5_v.out.keep HD6.out)
    have V6_x := Lib.hid (V5_x.out.keep HD6.out)
    have HW6 := Lib.hid (Below.next HW5.out HD6.out)
    clear k5_0 l5_0 k5_1 l5_1 hb HD6 L5_0 L5_1 V5_v V5_x HW5
    have k6_0 := L6_0.out.cell
    have l6_0 := L6_0.out.lt
    have k6_1 := L6_1.out.cell
    have l6_1 := L6_1.out.lt
    go_wp2_with fail
    refine (rsame_true (a := v) (b := v) rfl _ (fun _ => True) (fun _ => True) _ _ (V6_x.out) (V6_v.out)).mono ?_
    rintro e w7 ⟨rfl, hb⟩
    have HD7 := Lib.hid (show Below w6.heap.size w6 w7 from hb)
    have L7_0 := Lib.hid (L6_0.out.keep HD7.out)
    have L7_1 := Lib.hid (L6_1.out.keep HD7.out)
    have V7_v := Lib.hid (V6_v.out.keep HD7.out)
    have V7_x := Lib.hid (V6_x.out.keep HD7.out)
    have HW7 := Lib.hid (Below.next HW6.out HD7.out)
    clear k6_0 l6_0 k6_1 l6_1 hb HD7 L6_0 L6_1 V6_v V6_x HW6
    have k7_0 := L7_0.out.cell
    have l7_0 := L7_0.out.lt
    have k7_1 := L7_1.out.cell
    have l7_1 := L7_1.out.lt
    go_wp2_with fail
    go_ret
    exact ⟨rfl, HW7.out⟩
  · have ess : (v.str.toList == v.str.toList) = true := by simp
    have HBR := Lib.hid (fun w2 => bare_call hbare.out (by have := HS.out; omega) w2)
    go_wp2_with fail
    refine (unq_some (a := v.str) (b := ⟨#[]⟩) hu.out (by have := hz.out; omega) _).mono ?_
    rintro e w3 ⟨rfl, hb⟩
    have HD3 := Lib.hid (show Below w2.heap.size w2 w3 from hb)
    have L3_0 := Lib.hid (L2_0.out.keep HD3.out)
    have V3_v := Lib.hid (V2_v.out.keep HD3.out)
    have HW3 := Lib.hid (Below.next HW2.out HD3.out)
    clear k2_0 l2_0 hb HD3 L2_0 V2_v HW2
    have k3_0 := L3_0.out.cell
    have l3_0 := L3_0.out.lt
    go_wp2_with fail
    refine (awake4 _ (HV.out.keep (by exact HW3.out))).mono ?_
    rintro e w4 ⟨rfl, hb⟩
    have HD4 := Lib.hid (show Below w3.heap.size w3 w4 from hb)
    have L4_0 := Lib.hid (L3_0.out.keep HD4.out)
    have V4_v := Lib.hid (V3_v.out.keep HD4.out)
    have HW4 := Lib.hid (Below.next HW3.out HD4.out)
    clear k3_0 l3_0 hb HD4 L3_0 V3_v HW3
    have k4_0 := L4_0.out.cell
    have l4_0 := L4_0.out.lt
    go_wp2_with fail
    refine (HBR.out _).mono ?_
    rintro e w9 ⟨rfl, rfl⟩
    go_wp2_with fail
    go_ret
    exact ⟨rfl, HW4.out⟩

end Go.Proofs.YtjnbjehcmckdeaaDoor
