/- ScalarWords answers true for every input (printed by gen/laws04.py). -/
import Derived.Test.YtjnbjehcmckdeaaDoorScalA
import Derived.Test.YtjnbjehcmckdeaaDoorScalRT
import Derived.Test.YtjnbjehcmckdeaaDoorScalRP
import Derived.Deep.RegionHeld3
import Derived.Deep.DrawnRows
namespace Go.Proofs.YtjnbjehcmckdeaaDoor
open Go.RowKit
attribute [local go_sem ↓] Go.wp_at_zero Go.wp_at_succ

/-- A printed word, once and for all. -/
theorem tprint_call {t : T} {r : ByteArray} (h : printL t = r.data.toList) (hs : t.str.size ≤ 1000000) (v : Value) (w : World) (S : Nat → Prop) (hr : RepT w S v t) (hv : ScalV w) : Calls Tryd.prog 32 #[v] w fun e w' => e = .returned (.string r) ∧ Below w.heap.size w w' := by
  refine (tprint t v w S hr hs hv).mono ?_
  rintro e w' ⟨q, rfl, hq, hb⟩
  obtain rfl : q = r := list_ext (by rw [hq, h])
  exact ⟨rfl, hb⟩
theorem Good.small {t : T} (h : Good t) : t.str.size ≤ 6000 := by
  have := h.1
  rw [T.wt_eq] at this; omega
theorem ttext_call {t : T} {r : ByteArray} (h : textL t = r.data.toList) (hs : t.str.size ≤ 1000000) (v : Value) (w : World) (S : Nat → Prop) (hr : RepT w S v t) (hv : ScalV w) : Calls Tryd.prog 37 #[v] w fun e w' => e = .returned (.string r) ∧ Below w.heap.size w w' := by
  refine (ttextS t v w S hr hs hv).mono ?_
  rintro e w' ⟨q, rfl, hq, hb⟩
  obtain rfl : q = r := list_ext (by rw [hq, h])
  exact ⟨rfl, hb⟩
theorem rprint_call {t : T} {r : ByteArray} (h : printL t = r.data.toList) (hs : t.str.size ≤ 1000000) (v : Value) (w : World) (S : Nat → Prop) (hr : RepT w S v t) : Calls Tryd.prog 36 #[v] w fun e w' => e = .returned (.string r) ∧ Below w.heap.size w w' := by
  refine (rprint t v w S hr hs).mono ?_
  rintro e w' ⟨q, rfl, hq, hb⟩
  obtain rfl : q = r := list_ext (by rw [hq, h])
  exact ⟨rfl, hb⟩
theorem rtext_call {t : T} {r : ByteArray} (h : textL t = r.data.toList) (hs : t.str.size ≤ 1000000) (v : Value) (w : World) (S : Nat → Prop) (hr : RepT w S v t) : Calls Tryd.prog 38 #[v] w fun e w' => e = .returned (.string r) ∧ Below w.heap.size w w' := by
  refine (rtextS t v w S hr hs).mono ?_
  rintro e w' ⟨q, rfl, hq, hb⟩
  obtain rfl : q = r := list_ext (by rw [hq, h])
  exact ⟨rfl, hb⟩
set_option maxRecDepth 100000 in
set_option maxHeartbeats 16000000 in
theorem wordsL (s : ByteArray) (v : T) (vv : Value) (w : World) (hs : s.size ≤ 140737488351232) (hv : RepT w (fun _ => True) vv v) (hsc : ScalV w) : Calls Tryd.prog 7 #[.string s, vv] w fun e w' => e = .returned (.bool true) ∧ Below w.heap.size w w' := by
  have HV := Lib.hid hsc
  clear hsc
  obtain ⟨la, lc, ma, mc, rfl, -⟩ := hv.inv
  have H_v := Lib.hid hv
  clear hv
  by_cases hz : s.size ≤ 500
  case neg =>
    have hz1 : (500 : Int) < (s.size : Int) := by omega
    go_enter Tryd.func7, Tryd.ntmps7
    go_wp2_with (go_at_call 29; refine (awake4 _ (HV.out.keep (by exact Below.new _ _))).mono ?_; rintro e w9 ⟨rfl, hb9⟩)
    go_ret
    exact ⟨rfl, Below.next (Below.new _ _) hb9⟩
  have hz1 : (s.size : Int) ≤ 500 := by omega
  obtain ⟨tx, htx⟩ : ∃ t, t = parseV s := ⟨_, rfl⟩
  obtain ⟨te, hte⟩ : ∃ t, t = parseE s := ⟨_, rfl⟩
  obtain ⟨bb, hbb⟩ : ∃ b, b = bareL s.data.toList := ⟨_, rfl⟩
  obtain ⟨pr, hpr⟩ : ∃ r : ByteArray, printL v = r.data.toList := ⟨⟨(printL v).toArray⟩, rfl⟩
  obtain ⟨tr, htr⟩ : ∃ r : ByteArray, textL v = r.data.toList := ⟨⟨(textL v).toArray⟩, rfl⟩
  have CX := Lib.hid (fun w2 h2 => show Calls Tryd.prog 31 #[.string s] w2 (ParsePost w2 tx te) from htx ▸ hte ▸ tparse s hs w2 h2)
  have CY := Lib.hid (fun w2 => show Calls Tryd.prog 34 #[.string s] w2 (ParsePost w2 tx te) from htx ▸ hte ▸ rparse s hs w2)
  have CB := Lib.hid (fun w2 => show Calls Tryd.prog 30 #[.string s] w2 (fun e w' => e = .returned (.bool bb) ∧ Below w2.heap.size w2 w') from (hbb ▸ tbare s (by omega) w2).mono fun e w' h => ⟨h.1, by rw [← h.2]; exact Below.refl _ _⟩)
  have CR := Lib.hid (fun w2 => show Calls Tryd.prog 35 #[.string s] w2 (fun e w' => e = .returned (.bool bb) ∧ Below w2.heap.size w2 w') from (hbb ▸ rbare s (by omega) w2).mono fun e w' h => ⟨h.1, by rw [← h.2]; exact Below.refl _ _⟩)
  have HPR := Lib.hid hpr; have HTR := Lib.hid htr
  clear htx hte hbb hpr htr hz
  go_enter Tryd.func7, Tryd.ntmps7
  go_wp2_with fail
  refine (right [v] _ (fun _ => True) _ 1 (repE_L.1 (rep_block (E := eltV) (S := fun _ => True) (l := [v]) [[.int .i64 v.kind, .bool v.bool, .int .i64 v.int, .string v.str, .slice la v.list.length lc, .slice ma v.map.length mc]] (Blk.new_at (w.alloc (.cells #[.int .i64 v.kind, .bool v.bool, .int .i64 v.int, .string v.str, .slice la v.list.length lc, .slice ma v.map.length mc] 38)) 38 #[.int .i64 v.kind, .bool v.bool, .int .i64 v.int, .string v.str, .slice la v.list.length lc, .slice ma v.map.length mc] (n := w.heap.size + 1) (by simp)) rfl trivial ⟨(H_v.out.keep (by exact (Below.new _ _).alloc (by simp) _)), trivial⟩)) (by simp)).mono ?_
  rintro e w1 ⟨r, rfl, hr, hb⟩
  have HD1 := Lib.hid (show Below w.heap.size w w1 from Below.next ((Below.new _ _).alloc (by simp) _) hb)
  have L1_0 := Lib.hid (((Blk.new w 38 #[.int .i64 v.kind, .bool v.bool, .int .i64 v.int, .string v.str, .slice la v.list.length lc, .slice ma v.map.length mc]).alloc (.cells #[.int .i64 v.kind, .bool v.bool, .int .i64 v.int, .string v.str, .slice la v.list.length lc, .slice ma v.map.length mc] 38)).keep hb)
  have V1_v := Lib.hid (H_v.out.keep HD1.out)
  have HW1 := Lib.hid (show Below w.heap.size w w1 from HD1.out)
  clear hb HD1 H_v
  have k1_0 := L1_0.out.cell
  have l1_0 := L1_0.out.lt
  have HGR := Lib.hid hr
  clear hr
  cases r
  · go_wp2_with (go_at_call 29; refine (awake4 _ (HV.out.keep HW1.out)).mono ?_; rintro e w9 ⟨rfl, hb9⟩)
    go_ret
    exact ⟨rfl, Below.next HW1.out hb9⟩
  have HS := Lib.hid (show v.str.size ≤ 1000000 by have := (HGR.out rfl v (by simp)).small; omega)
  clear HGR
  go_wp2_with fail
  refine (CX.out _ (HV.out.keep (by exact HW1.out))).mono ?_
  rintro e w2 ⟨v2, rfl, hr0, hb⟩
  have hr := hr0 w2 (fun _ => True)
  clear hr0
  obtain ⟨qa2, qc2, qm2, qn2, rfl, -⟩ := hr.inv
  have N2 := Lib.hid (hr.any)
  clear hr
  have HD2 := Lib.hid (show Below w1.heap.size w1 w2 from hb)
  have L2_0 := Lib.hid (L1_0.out.keep HD2.out)
  have V2_v := Lib.hid (V1_v.out.keep HD2.out)
  have HW2 := Lib.hid (Below.next HW1.out HD2.out)
  clear k1_0 l1_0 hb HD2 L1_0 V1_v HW1
  have k2_0 := L2_0.out.cell
  have l2_0 := L2_0.out.lt
  go_wp2_with fail
  refine (CY.out _).mono ?_
  rintro e w3 ⟨v3, rfl, hr0, hb⟩
  have hr := hr0 w3 (fun _ => True)
  clear hr0
  obtain ⟨qa3, qc3, qm3, qn3, rfl, -⟩ := hr.inv
  have N3 := Lib.hid (hr.any)
  clear hr
  have HD3 := Lib.hid (show Below w2.heap.size w2 w3 from Below.next (Below.new _ _) hb)
  have L3_0 := Lib.hid (L2_0.out.keep HD3.out)
  have L3_1 := Lib.hid ((Blk.new w2 38 #[.int .i64 tx.kind, .bool tx.bool, .int .i64 tx.int, .string tx.str, .slice qa2 tx.list.length qc2, .slice qm2 tx.map.length qn2]).keep hb)
  have V3_v := Lib.hid (V2_v.out.keep HD3.out)
  have V3_x := Lib.hid (N2.out.keep HD3.out)
  have HW3 := Lib.hid (Below.next HW2.out HD3.out)
  clear k2_0 l2_0 hb HD3 L2_0 V2_v N2 HW2
  have k3_0 := L3_0.out.cell
  have l3_0 := L3_0.out.lt
  have k3_1 := L3_1.out.cell
  have l3_1 := L3_1.out.lt
  go_wp2_with fail
  obtain ⟨w4, hwz⟩ : ∃ x, x = (w3.alloc (.cells #[.int .i64 tx.kind, .bool tx.bool, .int .i64 tx.int, .string tx.str, .slice qa3 tx.list.length qc3, .slice qm3 tx.map.length qn3] 38)) := ⟨_, rfl⟩
  have hb : Below (w3.alloc (.cells #[.int .i64 tx.kind, .bool tx.bool, .int .i64 tx.int, .string tx.str, .slice qa3 tx.list.length qc3, .slice qm3 tx.map.length qn3] 38)).heap.size (w3.alloc (.cells #[.int .i64 tx.kind, .bool tx.bool, .int .i64 tx.int, .string tx.str, .slice qa3 tx.list.length qc3, .slice qm3 tx.map.length qn3] 38)) w4 := by rw [hwz]; exact Below.refl _ _
  rw [← hwz]
  clear hwz
  have HD4 := Lib.hid (show Below w3.heap.size w3 w4 from Below.next (Below.new _ _) hb)
  have L4_0 := Lib.hid (L3_0.out.keep HD4.out)
  have L4_1 := Lib.hid (L3_1.out.keep HD4.out)
  have L4_2 := Lib.hid ((Blk.new w3 38 #[.int .i64 tx.kind, .bool tx.bool, .int .i64 tx.int, .string tx.str, .slice qa3 tx.list.length qc3, .slice qm3 tx.map.length qn3]).keep hb)
  have V4_v := Lib.hid (V3_v.out.keep HD4.out)
  have V4_x := Lib.hid (V3_x.out.keep HD4.out)
  have V4_y := Lib.hid (N3.out.keep HD4.out)
  have HW4 := Lib.hid (Below.next HW3.out HD4.out)
  clear k3_0 l3_0 k3_1 l3_1 hb HD4 L3_0 L3_1 V3_v V3_x N3 HW3
  have k4_0 := L4_0.out.cell
  have l4_0 := L4_0.out.lt
  have k4_1 := L4_1.out.cell
  have l4_1 := L4_1.out.lt
  have k4_2 := L4_2.out.cell
  have l4_2 := L4_2.out.lt
  go_wp2_with fail
  have tok1 : True := trivial
  have tok2 : True := trivial
  have tok3 : True := trivial
  have tok4 : True := trivial
  have tok5 : True := trivial
  have tok6 : True := trivial
  have tok7 : True := trivial
  have q_0 := L4_0.out.cell
  have q_1 := L4_1.out.cell
  have q_2 := L4_2.out.cell
  clear k4_0 k4_1 k4_2
  go_region_held3 (fun w' => (∀ i, w'.cell? ⟨w.heap.size, i, none⟩ = (#[.int .i64 v.kind, .bool v.bool, .int .i64 v.int, .string v.str, .slice la v.list.length lc, .slice ma v.map.length mc] : Array Value)[i]?) ∧ (∀ i, w'.cell? ⟨w2.heap.size, i, none⟩ = (#[.int .i64 tx.kind, .bool tx.bool, .int .i64 tx.int, .string tx.str, .slice qa2 tx.list.length qc2, .slice qm2 tx.map.length qn2] : Array Value)[i]?) ∧ (∀ i, w'.cell? ⟨w3.heap.size, i, none⟩ = (#[.int .i64 tx.kind, .bool tx.bool, .int .i64 tx.int, .string tx.str, .slice qa3 tx.list.length qc3, .slice qm3 tx.map.length qn3] : Array Value)[i]?)) (exact ⟨q_0, q_1, q_2⟩) (first
        | (go_at_call 29; have _t := tok1; refine (awake4 _ (HV.out.keep (by exact (HW4.out).drew))).mono ?_; rintro e w5 ⟨rfl, hb⟩; have HD5 := Lib.hid (show Below w4.heap.size w4 w5 from Below.next ((Below.refl _ _).drew) hb); have L5_0 := Lib.hid (L4_0.out.keep HD5.out); have L5_1 := Lib.hid (L4_1.out.keep HD5.out); have L5_2 := Lib.hid (L4_2.out.keep HD5.out); have V5_v := Lib.hid (V4_v.out.keep HD5.out); have V5_x := Lib.hid (V4_x.out.keep HD5.out); have V5_y := Lib.hid (V4_y.out.keep HD5.out); have HW5 := Lib.hid (Below.next HW4.out HD5.out); clear q_0; clear q_1; clear q_2; have q_0 := L5_0.out.cell; have q_1 := L5_1.out.cell; have q_2 := L5_2.out.cell; clear tok1)
        | (go_at_call 20; have _t := tok2; refine (rsame_true (a := tx) (b := tx) rfl _ (fun _ => True) (fun _ => True) _ _ (V5_x.out) (V5_y.out)).mono ?_; rintro e w6 ⟨rfl, hb⟩; have HD6 := Lib.hid (show Below w5.heap.size w5 w6 from hb); have L6_0 := Lib.hid (L5_0.out.keep HD6.out); have L6_1 := Lib.hid (L5_1.out.keep HD6.out); have L6_2 := Lib.hid (L5_2.out.keep HD6.out); have V6_v := Lib.hid (V5_v.out.keep HD6.out); have V6_x := Lib.hid (V5_x.out.keep HD6.out); have V6_y := Lib.hid (V5_y.out.keep HD6.out); have HW6 := Lib.hid (Below.next HW5.out HD6.out); clear q_0; clear q_1; clear q_2; have q_0 := L6_0.out.cell; have q_1 := L6_1.out.cell; have q_2 := L6_2.out.cell; clear tok2)
        | (go_at_call 30; have _t := tok3; refine (CB.out _).mono ?_; rintro e w7 ⟨rfl, hb⟩; have HD7 := Lib.hid (show Below w6.heap.size w6 w7 from hb); have L7_0 := Lib.hid (L6_0.out.keep HD7.out); have L7_1 := Lib.hid (L6_1.out.keep HD7.out); have L7_2 := Lib.hid (L6_2.out.keep HD7.out); have V7_v := Lib.hid (V6_v.out.keep HD7.out); have V7_x := Lib.hid (V6_x.out.keep HD7.out); have V7_y := Lib.hid (V6_y.out.keep HD7.out); have HW7 := Lib.hid (Below.next HW6.out HD7.out); clear q_0; clear q_1; clear q_2; have q_0 := L7_0.out.cell; have q_1 := L7_1.out.cell; have q_2 := L7_2.out.cell; clear tok3)
        | (go_at_call 35; have _t := tok4; refine (CR.out _).mono ?_; rintro e w8 ⟨rfl, hb⟩; have HD8 := Lib.hid (show Below w7.heap.size w7 w8 from hb); have L8_0 := Lib.hid (L7_0.out.keep HD8.out); have L8_1 := Lib.hid (L7_1.out.keep HD8.out); have L8_2 := Lib.hid (L7_2.out.keep HD8.out); have V8_v := Lib.hid (V7_v.out.keep HD8.out); have V8_x := Lib.hid (V7_x.out.keep HD8.out); have V8_y := Lib.hid (V7_y.out.keep HD8.out); have HW8 := Lib.hid (Below.next HW7.out HD8.out); clear q_0; clear q_1; clear q_2; have q_0 := L8_0.out.cell; have q_1 := L8_1.out.cell; have q_2 := L8_2.out.cell; clear tok4)
        | (go_at_call 32; have _t := tok5; refine (tprint_call HPR.out HS.out _ _ (fun _ => True) (V8_v.out) (HV.out.keep (by exact HW8.out))).mono ?_; rintro e w9 ⟨rfl, hb⟩; have HD9 := Lib.hid (show Below w8.heap.size w8 w9 from hb); have L9_0 := Lib.hid (L8_0.out.keep HD9.out); have L9_1 := Lib.hid (L8_1.out.keep HD9.out); have L9_2 := Lib.hid (L8_2.out.keep HD9.out); have V9_v := Lib.hid (V8_v.out.keep HD9.out); have V9_x := Lib.hid (V8_x.out.keep HD9.out); have V9_y := Lib.hid (V8_y.out.keep HD9.out); have HW9 := Lib.hid (Below.next HW8.out HD9.out); clear q_0; clear q_1; clear q_2; have q_0 := L9_0.out.cell; have q_1 := L9_1.out.cell; have q_2 := L9_2.out.cell; clear tok5)
        | (go_at_call 36; have _t := tok6; refine (rprint_call HPR.out HS.out _ _ (fun _ => True) (V9_v.out)).mono ?_; rintro e w10 ⟨rfl, hb⟩; have HD10 := Lib.hid (show Below w9.heap.size w9 w10 from hb); have L10_0 := Lib.hid (L9_0.out.keep HD10.out); have L10_1 := Lib.hid (L9_1.out.keep HD10.out); have L10_2 := Lib.hid (L9_2.out.keep HD10.out); have V10_v := Lib.hid (V9_v.out.keep HD10.out); have V10_x := Lib.hid (V9_x.out.keep HD10.out); have V10_y := Lib.hid (V9_y.out.keep HD10.out); have HW10 := Lib.hid (Below.next HW9.out HD10.out); clear q_0; clear q_1; clear q_2; have q_0 := L10_0.out.cell; have q_1 := L10_1.out.cell; have q_2 := L10_2.out.cell; clear tok6)
        | (go_at_call 37; have _t := tok7; refine (ttext_call HTR.out HS.out _ _ (fun _ => True) (V10_v.out) (HV.out.keep (by exact HW10.out))).mono ?_; rintro e w11 ⟨rfl, hb⟩; have HD11 := Lib.hid (show Below w10.heap.size w10 w11 from hb); have L11_0 := Lib.hid (L10_0.out.keep HD11.out); have L11_1 := Lib.hid (L10_1.out.keep HD11.out); have L11_2 := Lib.hid (L10_2.out.keep HD11.out); have V11_v := Lib.hid (V10_v.out.keep HD11.out); have V11_x := Lib.hid (V10_x.out.keep HD11.out); have V11_y := Lib.hid (V10_y.out.keep HD11.out); have HW11 := Lib.hid (Below.next HW10.out HD11.out); clear q_0; clear q_1; clear q_2; have q_0 := L11_0.out.cell; have q_1 := L11_1.out.cell; have q_2 := L11_2.out.cell; clear tok7)
        | (go_at_call 38; refine (rtext_call HTR.out HS.out _ _ (fun _ => True) (V11_v.out)).mono ?_; rintro e w12 ⟨rfl, hb⟩; have HD12 := Lib.hid (show Below w11.heap.size w11 w12 from hb); have L12_0 := Lib.hid (L11_0.out.keep HD12.out); have L12_1 := Lib.hid (L11_1.out.keep HD12.out); have L12_2 := Lib.hid (L11_2.out.keep HD12.out); have V12_v := Lib.hid (V11_v.out.keep HD12.out); have V12_x := Lib.hid (V11_x.out.keep HD12.out); have V12_y := Lib.hid (V11_y.out.keep HD12.out); have HW12 := Lib.hid (Below.next HW11.out HD12.out); clear q_0; clear q_1; clear q_2; have q_0 := L12_0.out.cell; have q_1 := L12_1.out.cell; have q_2 := L12_2.out.cell))
  go_wp2_with fail
  go_ret
  exact ⟨rfl, HW12.out⟩

end Go.Proofs.YtjnbjehcmckdeaaDoor
