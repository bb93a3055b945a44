/- TreeCompares answers true for every input. -/
import Derived.Test.YtmdihildjblgnaaAwake
import Derived.Test.YtmdihildjblgnaaRefCmp
import Derived.Test.YtmdihildjblgnaaCmpEq
import Derived.Test.YtmdihildjblgnaaTruth
import Derived.Deep.RegionHeld3
import Derived.Deep.DrawnRows
namespace Go.Proofs.Ytmdihildjblgnaa
open Go.RowKit
attribute [local go_sem ↓] Go.wp_at_zero Go.wp_at_succ

set_option maxRecDepth 100000 in
set_option maxHeartbeats 8000000 in
theorem compares (a b : T) (va vb : Value) (w : World) (ha : RepT w (fun _ => True) va a) (hb : RepT w (fun _ => True) vb b) :
    Calls Try.prog 8 #[va, vb] w fun e w' => e = .returned (.bool true) ∧ Below w.heap.size w w' := by
  obtain ⟨la, lc, ma, mc, rfl, -⟩ := ha.inv
  obtain ⟨la2, lc2, ma2, mc2, rfl, -⟩ := hb.inv
  have H_a := Lib.hid ha
  have H_b := Lib.hid hb
  clear ha hb
  go_enter Try.func8, Try.ntmps8
  go_wp2_with fail
  refine (right [a, b] _ (fun _ => True) _ 2 (repE_L.1 (rep_block (E := eltV) (S := fun _ => True) (l := [a, b]) [[.int .i64 a.kind, .bool a.bool, .int .i64 a.int, .string a.str, .slice la a.list.length lc, .slice ma a.map.length mc], [.int .i64 b.kind, .bool b.bool, .int .i64 b.int, .string b.str, .slice la2 b.list.length lc2, .slice ma2 b.map.length mc2]] (Blk.new_at ((w.alloc (.cells #[.int .i64 a.kind, .bool a.bool, .int .i64 a.int, .string a.str, .slice la a.list.length lc, .slice ma a.map.length mc] 25)).alloc (.cells #[.int .i64 b.kind, .bool b.bool, .int .i64 b.int, .string b.str, .slice la2 b.list.length lc2, .slice ma2 b.map.length mc2] 25)) 25 #[.int .i64 a.kind, .bool a.bool, .int .i64 a.int, .string a.str, .slice la a.list.length lc, .slice ma a.map.length mc, .int .i64 b.kind, .bool b.bool, .int .i64 b.int, .string b.str, .slice la2 b.list.length lc2, .slice ma2 b.map.length mc2] (n := w.heap.size + 1 + 1) (by simp)) rfl trivial ⟨(H_a.out.keep (by exact ((Below.new _ _).alloc (by simp) _).alloc (by simp; omega) _)), (H_b.out.keep (by exact ((Below.new _ _).alloc (by simp) _).alloc (by simp; omega) _)), trivial⟩)) (by simp)).mono ?_
  rintro e w1 ⟨r, rfl, hr, hb⟩
  have HD1 := Lib.hid (show Below w.heap.size w w1 from Below.next (((Below.new _ _).alloc (by simp) _).alloc (by simp; omega) _) hb)
  have L1_0 := Lib.hid ((((Blk.new w 25 #[.int .i64 a.kind, .bool a.bool, .int .i64 a.int, .string a.str, .slice la a.list.length lc, .slice ma a.map.length mc]).alloc (.cells #[.int .i64 b.kind, .bool b.bool, .int .i64 b.int, .string b.str, .slice la2 b.list.length lc2, .slice ma2 b.map.length mc2] 25)).alloc (.cells #[.int .i64 a.kind, .bool a.bool, .int .i64 a.int, .string a.str, .slice la a.list.length lc, .slice ma a.map.length mc, .int .i64 b.kind, .bool b.bool, .int .i64 b.int, .string b.str, .slice la2 b.list.length lc2, .slice ma2 b.map.length mc2] 25)).keep hb)
  have L1_1 := Lib.hid (((Blk.new_at (w.alloc (.cells #[.int .i64 a.kind, .bool a.bool, .int .i64 a.int, .string a.str, .slice la a.list.length lc, .slice ma a.map.length mc] 25)) 25 #[.int .i64 b.kind, .bool b.bool, .int .i64 b.int, .string b.str, .slice la2 b.list.length lc2, .slice ma2 b.map.length mc2] (n := w.heap.size + 1) (by simp)).alloc (.cells #[.int .i64 a.kind, .bool a.bool, .int .i64 a.int, .string a.str, .slice la a.list.length lc, .slice ma a.map.length mc, .int .i64 b.kind, .bool b.bool, .int .i64 b.int, .string b.str, .slice la2 b.list.length lc2, .slice ma2 b.map.length mc2] 25)).keep hb)
  have V1_a := Lib.hid (H_a.out.keep HD1.out)
  have V1_b := Lib.hid (H_b.out.keep HD1.out)
  have HW1 := Lib.hid (show Below w.heap.size w w1 from HD1.out)
  clear hb HD1 H_a H_b
  have k1_0 := L1_0.out.cell
  have l1_0 := L1_0.out.lt
  have k1_1 := L1_1.out.cell
  have l1_1 := L1_1.out.lt
  have HR := Lib.hid hr
  clear hr
  cases r
  · go_wp2_with (go_at_call 24; refine (awake1 _).mono ?_; rintro e w9 ⟨rfl, hb9⟩)
    go_ret
    exact ⟨rfl, Below.next HW1.out hb9⟩
  have hga : Good a := HR.out rfl a (by simp)
  have hgb : Good b := HR.out rfl b (by simp)
  have HI := Lib.hid (cmp_iff hga hgb)
  have HBB := Lib.hid (parts_isbare hga.parts)
  clear hga hgb
  have C1 : Hid (∀ (w : World) (c : Value) (d : Value), RepT w (fun _ => True) c a → RepT w (fun _ => True) d b → Calls Try.prog 39 #[c, d] w (fun e w' => e = .returned (.int .i64 (T.cmp a b)) ∧ Below w.heap.size w w')) := fun w c d h0 h1 => tcompare a b w _ _ c d h0 h1
  have C2 : Hid (∀ (w : World) (c : Value) (d : Value), RepT w (fun _ => True) c a → RepT w (fun _ => True) d b → Calls Try.prog 41 #[c, d] w (fun e w' => e = .returned (.int .i64 (T.cmp a b)) ∧ Below w.heap.size w w')) := fun w c d h0 h1 => rcompare a b w _ _ c d h0 h1
  have C3 : Hid (∀ (w : World) (c : Value) (d : Value), RepT w (fun _ => True) c a → RepT w (fun _ => True) d b → Calls Try.prog 40 #[c, d] w (fun e w' => e = .returned (.bool (decide (T.cmp a b = 0))) ∧ Below w.heap.size w w')) := fun w c d h0 h1 => tsame a b w _ _ c d h0 h1
  have C4 : Hid (∀ (w : World) (c : Value) (d : Value), RepT w (fun _ => True) c a → RepT w (fun _ => True) d b → Calls Try.prog 28 #[c, d] w (fun e w' => e = .returned (.bool (decide (T.cmp a b = 0))) ∧ Below w.heap.size w w')) := fun w c d h0 h1 => (rsame a b w _ _ c d h0 h1).mono fun e w' ⟨r, he, hr, hb⟩ => ⟨by rw [he, show r = decide (T.cmp a b = 0) from by rw [Bool.eq_iff_iff, hr, decide_eq_true_eq]; exact HI.out.symm], hb⟩
  have C5 : Hid (∀ (w : World) (c : Value), RepT w (fun _ => True) c a → Calls Try.prog 33 #[c] w (fun e w' => e = .returned (.bool a.truth) ∧ Below w.heap.size w w')) := fun w c h0 => ttruth a c w _ h0
  have C6 : Hid (∀ (w : World) (c : Value), RepT w (fun _ => True) c a → Calls Try.prog 42 #[c] w (fun e w' => e = .returned (.bool a.truth) ∧ Below w.heap.size w w')) := fun w c h0 => rtruth a c w _ h0 HBB.out
  clear HI HBB HR
  generalize decide (T.cmp a b = 0) = sb at *
  generalize T.cmp a b = z at *
  generalize a.truth = tb at *
  go_wp2_with fail
  have tok1 : True := trivial
  have tok2 : True := trivial
  have tok3 : True := trivial
  have tok4 : True := trivial
  have tok5 : True := trivial
  have tok6 : True := trivial
  have q_0 := L1_0.out.cell
  have q_1 := L1_1.out.cell
  clear k1_0 k1_1
  go_region_held3 (fun w' => (∀ i, w'.cell? ⟨w.heap.size, i, none⟩ = (#[.int .i64 a.kind, .bool a.bool, .int .i64 a.int, .string a.str, .slice la a.list.length lc, .slice ma a.map.length mc] : Array Value)[i]?) ∧ (∀ i, w'.cell? ⟨w.heap.size + 1, i, none⟩ = (#[.int .i64 b.kind, .bool b.bool, .int .i64 b.int, .string b.str, .slice la2 b.list.length lc2, .slice ma2 b.map.length mc2] : Array Value)[i]?)) (exact ⟨q_0, q_1⟩) (first
        | (go_at_call 24; have _t := tok1; refine (awake1 _).mono ?_; rintro e w2 ⟨rfl, hb⟩; have HD2 := Lib.hid (show Below w1.heap.size w1 w2 from Below.next ((Below.refl _ _).drew) hb); have L2_0 := Lib.hid (L1_0.out.keep HD2.out); have L2_1 := Lib.hid (L1_1.out.keep HD2.out); have V2_a := Lib.hid (V1_a.out.keep HD2.out); have V2_b := Lib.hid (V1_b.out.keep HD2.out); have HW2 := Lib.hid (Below.next HW1.out HD2.out); clear q_0; clear q_1; have q_0 := L2_0.out.cell; have q_1 := L2_1.out.cell; clear tok1)
        | (go_at_call 39; have _t := tok2; refine (C1.out _ _ _ (V2_a.out) (V2_b.out)).mono ?_; rintro e w3 ⟨rfl, hb⟩; have HD3 := Lib.hid (show Below w2.heap.size w2 w3 from hb); have L3_0 := Lib.hid (L2_0.out.keep HD3.out); have L3_1 := Lib.hid (L2_1.out.keep HD3.out); have V3_a := Lib.hid (V2_a.out.keep HD3.out); have V3_b := Lib.hid (V2_b.out.keep HD3.out); have HW3 := Lib.hid (Below.next HW2.out HD3.out); clear q_0; clear q_1; have q_0 := L3_0.out.cell; have q_1 := L3_1.out.cell; clear tok2)
        | (go_at_call 41; have _t := tok3; refine (C2.out _ _ _ (V3_a.out) (V3_b.out)).mono ?_; rintro e w4 ⟨rfl, hb⟩; have HD4 := Lib.hid (show Below w3.heap.size w3 w4 from hb); have L4_0 := Lib.hid (L3_0.out.keep HD4.out); have L4_1 := Lib.hid (L3_1.out.keep HD4.out); have V4_a := Lib.hid (V3_a.out.keep HD4.out); have V4_b := Lib.hid (V3_b.out.keep HD4.out); have HW4 := Lib.hid (Below.next HW3.out HD4.out); clear q_0; clear q_1; have q_0 := L4_0.out.cell; have q_1 := L4_1.out.cell; clear tok3)
        | (go_at_call 40; have _t := tok4; refine (C3.out _ _ _ (V4_a.out) (V4_b.out)).mono ?_; rintro e w5 ⟨rfl, hb⟩; have HD5 := Lib.hid (show Below w4.heap.size w4 w5 from hb); have L5_0 := Lib.hid (L4_0.out.keep HD5.out); have L5_1 := Lib.hid (L4_1.out.keep HD5.out); have V5_a := Lib.hid (V4_a.out.keep HD5.out); have V5_b := Lib.hid (V4_b.out.keep HD5.out); have HW5 := Lib.hid (Below.next HW4.out HD5.out); clear q_0; clear q_1; have q_0 := L5_0.out.cell; have q_1 := L5_1.out.cell; clear tok4)
        | (go_at_call 28; have _t := tok5; refine (C4.out _ _ _ (V5_a.out) (V5_b.out)).mono ?_; rintro e w6 ⟨rfl, hb⟩; have HD6 := Lib.hid (show Below w5.heap.size w5 w6 from hb); have L6_0 := Lib.hid (L5_0.out.keep HD6.out); have L6_1 := Lib.hid (L5_1.out.keep HD6.out); have V6_a := Lib.hid (V5_a.out.keep HD6.out); have V6_b := Lib.hid (V5_b.out.keep HD6.out); have HW6 := Lib.hid (Below.next HW5.out HD6.out); clear q_0; clear q_1; have q_0 := L6_0.out.cell; have q_1 := L6_1.out.cell; clear tok5)
        | (go_at_call 33; have _t := tok6; refine (C5.out _ _ (V6_a.out)).mono ?_; rintro e w7 ⟨rfl, hb⟩; have HD7 := Lib.hid (show Below w6.heap.size w6 w7 from hb); have L7_0 := Lib.hid (L6_0.out.keep HD7.out); have L7_1 := Lib.hid (L6_1.out.keep HD7.out); have V7_a := Lib.hid (V6_a.out.keep HD7.out); have V7_b := Lib.hid (V6_b.out.keep HD7.out); have HW7 := Lib.hid (Below.next HW6.out HD7.out); clear q_0; clear q_1; have q_0 := L7_0.out.cell; have q_1 := L7_1.out.cell; clear tok6)
        | (go_at_call 42; refine (C6.out _ _ (V7_a.out)).mono ?_; rintro e w8 ⟨rfl, hb⟩; have HD8 := Lib.hid (show Below w7.heap.size w7 w8 from hb); have L8_0 := Lib.hid (L7_0.out.keep HD8.out); have L8_1 := Lib.hid (L7_1.out.keep HD8.out); have V8_a := Lib.hid (V7_a.out.keep HD8.out); have V8_b := Lib.hid (V7_b.out.keep HD8.out); have HW8 := Lib.hid (Below.next HW7.out HD8.out); clear q_0; clear q_1; have q_0 := L8_0.out.cell; have q_1 := L8_1.out.cell))
  go_wp2_with fail
  go_ret
  exact ⟨rfl, HW8.out⟩

end Go.Proofs.Ytmdihildjblgnaa
