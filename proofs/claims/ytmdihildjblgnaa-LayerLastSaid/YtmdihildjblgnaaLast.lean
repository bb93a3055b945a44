/- LayerLast answers true for every input. -/
import Derived.Test.YtmdihildjblgnaaAwake3
import Derived.Test.YtmdihildjblgnaaText
import Derived.Deep.RegionHeld3
import Derived.Deep.DrawnRows
namespace Go.Proofs.Ytmdihildjblgnaa
open Go.RowKit
attribute [local go_sem ↓] Go.wp_at_zero Go.wp_at_succ

/-- What the law's trees are. -/
theorem last_pure {a b : T} {key : ByteArray} (ha : Good a) (hb : Good b) (h5 : a.kind = 5) (h6 : b.kind = 5) : ∃ (v tx ty ta : T) (bb bv ba : Bool), b.over a = v ∧ KS a.map ∧ KS b.map ∧ KS v.map ∧
    (getT b key).isSome = bb ∧ (getT b key).getD T.zero = tx ∧ (getT v key).isSome = bv ∧ (getT v key).getD T.zero = ty ∧ (getT a key).isSome = ba ∧ (getT a key).getD T.zero = ta ∧
    ((bb = false ∧ bv = ba ∧ ty = ta) ∨ (bb = true ∧ tx.kind = 0 ∧ bv = false) ∨ (bb = true ∧ tx.kind = 5 ∧ bv = true ∧ ty.kind = 5) ∨ (bb = true ∧ tx.kind ≠ 0 ∧ tx.kind ≠ 5 ∧ bv = true ∧ ty = tx)) := by
  obtain ⟨l', e, hks, hlen, hlk⟩ := over_look ha.neat hb.neat h5 h6
  refine ⟨_, _, _, _, _, _, _, rfl, ha.KS, hb.KS, by rw [e]; exact hks, rfl, rfl, rfl, rfl, rfl, rfl, ?_⟩
  rw [e, getT_mk, hlk, getT_look ha.neat, getT_look hb.neat]
  cases ex : look b.map key with
  | none => exact .inl ⟨rfl, rfl, rfl⟩
  | some x =>
    right
    rw [ovl]
    by_cases h0 : x.kind = 0
    · rw [if_pos h0]; exact .inl ⟨rfl, h0, rfl⟩
    · rw [if_neg h0]
      right
      by_cases hx : x.kind = 5
      · refine .inl ⟨rfl, hx, rfl, ?_⟩
        show (x.over _).kind = 5
        rw [over_kind x _ (fun _ => ⟨6000, ha.neat.getD key⟩) ⟨6000, hb.neat.look ex⟩]; exact hx
      · refine .inr ⟨rfl, h0, hx, rfl, ?_⟩
        show x.over _ = x
        rw [over_strip (fun h => hx h.2), strip_eq, if_neg hx]

set_option maxRecDepth 100000 in
set_option maxHeartbeats 8000000 in
theorem last (a b : T) (key : ByteArray) (va vb : Value) (w : World) (ha : RepT w (fun _ => True) va a) (hb : RepT w (fun _ => True) vb b) (hk : key.size ≤ 140737488351232) :
    Calls Try.prog 6 #[va, vb, .string key] w fun e w' => e = .returned (.bool true) ∧ Below w.heap.size w w' := by
  obtain ⟨la, lc, ma, mc, rfl, -⟩ := ha.inv
  obtain ⟨la2, lc2, ma2, mc2, rfl, -⟩ := hb.inv
  have H_a := Lib.hid ha
  have H_b := Lib.hid hb
  clear ha hb
  have RK := Lib.hid (fun w => rkey key w hk)
  go_enter Try.func6, Try.ntmps6
  go_wp2_with fail
  refine (right [a, b] _ (fun _ => True) _ 2 (repE_L.1 (rep_block (E := eltV) (S := fun _ => True) (l := [a, b]) [[.int .i64 a.kind, .bool a.bool, .int .i64 a.int, .string a.str, .slice la a.list.length lc, .slice ma a.map.length mc], [.int .i64 b.kind, .bool b.bool, .int .i64 b.int, .string b.str, .slice la2 b.list.length lc2, .slice ma2 b.map.length mc2]] (Blk.new_at ((w.alloc (.cells #[.int .i64 a.kind, .bool a.bool, .int .i64 a.int, .string a.str, .slice la a.list.length lc, .slice ma a.map.length mc] 25)).alloc (.cells #[.int .i64 b.kind, .bool b.bool, .int .i64 b.int, .string b.str, .slice la2 b.list.length lc2, .slice ma2 b.map.length mc2] 25)) 25 #[.int .i64 a.kind, .bool a.bool, .int .i64 a.int, .string a.str, .slice la a.list.length lc, .slice ma a.map.length mc, .int .i64 b.kind, .bool b.bool, .int .i64 b.int, .string b.str, .slice la2 b.list.length lc2, .slice ma2 b.map.length mc2] (n := w.heap.size + 1 + 1) (by simp)) rfl trivial ⟨(H_a.out.keep (by exact ((Below.new _ _).alloc (by simp) _).alloc (by simp; omega) _)), (H_b.out.keep (by exact ((Below.new _ _).alloc (by simp) _).alloc (by simp; omega) _)), trivial⟩)) (by simp)).mono ?_
  rintro e w1 ⟨r, rfl, hr, hb⟩
  have HD1 := Lib.hid (show Below w.heap.size w w1 from Below.next (((Below.new _ _).alloc (by simp) _).alloc (by simp; omega) _) hb)
  have L1_0 := Lib.hid ((((Blk.new w 25 #[.int .i64 a.kind, .bool a.bool, .int .i64 a.int, .string a.str, .slice la a.list.length lc, .slice ma a.map.length mc]).alloc (.cells #[.int .i64 b.kind, .bool b.bool, .int .i64 b.int, .string b.str, .slice la2 b.list.length lc2, .slice ma2 b.map.length mc2] 25)).alloc (.cells #[.int .i64 a.kind, .bool a.bool, .int .i64 a.int, .string a.str, .slice la a.list.length lc, .slice ma a.map.length mc, .int .i64 b.kind, .bool b.bool, .int .i64 b.int, .string b.str, .slice la2 b.list.length lc2, .slice ma2 b.map.length mc2] 25)).keep hb)
  have L1_1 := Lib.hid (((Blk.new_at (w.alloc (.cells #[.int .i64 a.kind, .bool a.bool, .int .i64 a.int, .string a.str, .slice la a.list.length lc, .slice ma a.map.length mc] 25)) 25 #[.int .i64 b.kind, .bool b.bool, .int .i64 b.int, .string b.str, .slice la2 b.list.length lc2, .slice ma2 b.map.length mc2] (n := w.heap.size + 1) (by simp)).alloc (.cells #[.int .i64 a.kind, .bool a.bool, .int .i64 a.int, .string a.str, .slice la a.list.length lc, .slice ma a.map.length mc, .int .i64 b.kind, .bool b.bool, .int .i64 b.int, .string b.str, .slice la2 b.list.length lc2, .slice ma2 b.map.length mc2] 25)).keep hb)
  have V1_a := Lib.hid (H_a.out.keep HD1.out)
  have V1_b := Lib.hid (H_b.out.keep HD1.out)
  have HW1 := Lib.hid (show Below w.heap.size w w1 from HD1.out)
  clear hb HD1 H_a H_b
  have k1_0 := L1_0.out.cell
  have l1_0 := L1_0.out.lt
  have k1_1 := L1_1.out.cell
  have l1_1 := L1_1.out.lt
  have HR := Lib.hid hr
  clear hr
  cases r
  · go_wp2_with (go_at_call 37; refine (awake3 _).mono ?_; rintro e w9 ⟨rfl, hb9⟩)
    go_ret
    exact ⟨rfl, Below.next HW1.out hb9⟩
  have hga : Good a := HR.out rfl a (by simp)
  have hgb : Good b := HR.out rfl b (by simp)
  by_cases h5 : a.kind = 5
  case neg =>
    have gh5 : (a.kind != 5) = true := bne_iff_ne.2 h5
    clear h5 hga hgb
    go_wp2_with (go_at_call 37; refine (awake3 _).mono ?_; rintro e w9 ⟨rfl, hb9⟩)
    go_ret
    exact ⟨rfl, Below.next HW1.out hb9⟩
  by_cases h6 : b.kind = 5
  case neg =>
    have gh6 : (b.kind != 5) = true := bne_iff_ne.2 h6
    have gh5 : (a.kind != 5) = false := by rw [h5]; rfl
    clear h5
    clear h6 hga hgb
    go_wp2_with (go_at_call 37; refine (awake3 _).mono ?_; rintro e w9 ⟨rfl, hb9⟩)
    go_ret
    exact ⟨rfl, Below.next HW1.out hb9⟩
  have gh5 : (a.kind != 5) = false := by rw [h5]; rfl
  have gh6 : (b.kind != 5) = false := by rw [h6]; rfl
  cases hkb : keyB key
  case false =>
    rw [hkb] at RK
    clear hkb hga hgb h5 h6
    go_wp2_with (first | (go_at_call 23; ((refine (RK.out _).mono ?_); rintro e w8 ⟨rfl, rfl⟩)) | (go_at_call 37; refine (awake3 _).mono ?_; rintro e w9 ⟨rfl, hb9⟩))
    go_ret
    exact ⟨rfl, Below.next HW1.out hb9⟩
  rw [hkb] at RK
  clear hkb
  obtain ⟨v, tx, ty, ta, bb, bv, ba, e0, k1, k2, k3, e1, e2, e3, e4, e5, e6, hcases⟩ := last_pure (key := key) hga hgb h5 h6
  have C1 : Hid (∀ (w : World) (c : Value) (d : Value), RepT w (fun _ => True) c a → RepT w (fun _ => True) d b → Calls Try.prog 38 #[c, d] w (NewPost w v)) := fun w c d h0 h1 => e0 ▸ tover (na := 6000) (nb := 6000) (by omega) b a hga.neat hgb.neat c d w _ _ h0 h1
  have C2 : Hid (∀ (w : World) (c : Value), RepT w (fun _ => True) c b → Calls Try.prog 26 #[c, .string key] w (GotB w bb tx)) := fun w c h0 => tget_b e1 e2 c w _ h0 k2
  have C3 : Hid (∀ (w : World) (c : Value), RepT w (fun _ => True) c v → Calls Try.prog 26 #[c, .string key] w (GotB w bv ty)) := fun w c h0 => tget_b e3 e4 c w _ h0 k3
  have C4 : Hid (∀ (w : World) (c : Value), RepT w (fun _ => True) c a → Calls Try.prog 26 #[c, .string key] w (GotB w ba ta)) := fun w c h0 => tget_b e5 e6 c w _ h0 k1
  have CS : Hid (∀ (t : T) (w : World) (a b : Value), RepT w (fun _ => True) a t → RepT w (fun _ => True) b t → Calls Try.prog 28 #[a, b] w (fun e w' => e = .returned (.bool true) ∧ Below w.heap.size w w')) := fun t w a b h0 h1 => rsame_true rfl w _ _ a b h0 h1
  clear e0 k1 k2 k3 e1 e2 e3 e4 e5 e6 h5 h6 hga hgb HR
  go_wp2_with (first | (go_at_call 23; ((refine (RK.out _).mono ?_); rintro e w8 ⟨rfl, rfl⟩)))
  refine (C1.out _ _ _ (V1_a.out) (V1_b.out)).mono ?_
  rintro e w2 ⟨v2, rfl, hr, hb⟩
  obtain ⟨qa2, qc2, qm2, qn2, rfl, -⟩ := hr.inv
  have N2 := Lib.hid (hr.any)
  clear hr
  have HD2 := Lib.hid (show Below w1.heap.size w1 w2 from hb)
  have L2_0 := Lib.hid (L1_0.out.keep HD2.out)
  have L2_1 := Lib.hid (L1_1.out.keep HD2.out)
  have V2_a := Lib.hid (V1_a.out.keep HD2.out)
  have V2_b := Lib.hid (V1_b.out.keep HD2.out)
  have HW2 := Lib.hid (Below.next HW1.out HD2.out)
  clear k1_0 l1_0 k1_1 l1_1 hb HD2 L1_0 L1_1 V1_a V1_b HW1
  have k2_0 := L2_0.out.cell
  have l2_0 := L2_0.out.lt
  have k2_1 := L2_1.out.cell
  have l2_1 := L2_1.out.lt
  go_wp2_with fail
  refine (C2.out _ _ (V2_b.out.keep (by exact Below.new _ _))).mono ?_
  rintro e w3 ⟨v3, rfl, hr, hb⟩
  obtain ⟨qa3, qc3, qm3, qn3, rfl, -⟩ := hr.inv
  have N3 := Lib.hid (hr.any)
  clear hr
  have HD3 := Lib.hid (show Below w2.heap.size w2 w3 from Below.next (Below.new _ _) hb)
  have L3_0 := Lib.hid (L2_0.out.keep HD3.out)
  have L3_1 := Lib.hid (L2_1.out.keep HD3.out)
  have L3_2 := Lib.hid ((Blk.new w2 25 #[.int .i64 v.kind, .bool v.bool, .int .i64 v.int, .string v.str, .slice qa2 v.list.length qc2, .slice qm2 v.map.length qn2]).keep hb)
  have V3_a := Lib.hid (V2_a.out.keep HD3.out)
  have V3_b := Lib.hid (V2_b.out.keep HD3.out)
  have V3_v := Lib.hid (N2.out.keep HD3.out)
  have HW3 := Lib.hid (Below.next HW2.out HD3.out)
  clear k2_0 l2_0 k2_1 l2_1 hb HD3 L2_0 L2_1 V2_a V2_b N2 HW2
  have k3_0 := L3_0.out.cell
  have l3_0 := L3_0.out.lt
  have k3_1 := L3_1.out.cell
  have l3_1 := L3_1.out.lt
  have k3_2 := L3_2.out.cell
  have l3_2 := L3_2.out.lt
  go_wp2_with fail
  refine (C3.out _ _ (V3_v.out.keep (by exact Below.new _ _))).mono ?_
  rintro e w4 ⟨v4, rfl, hr, hb⟩
  obtain ⟨qa4, qc4, qm4, qn4, rfl, -⟩ := hr.inv
  have N4 := Lib.hid (hr.any)
  clear hr
  have HD4 := Lib.hid (show Below w3.heap.size w3 w4 from Below.next (Below.new _ _) hb)
  have L4_0 := Lib.hid (L3_0.out.keep HD4.out)
  have L4_1 := Lib.hid (L3_1.out.keep HD4.out)
  have L4_2 := Lib.hid (L3_2.out.keep HD4.out)
  have L4_3 := Lib.hid ((Blk.new w3 25 #[.int .i64 tx.kind, .bool tx.bool, .int .i64 tx.int, .string tx.str, .slice qa3 tx.list.length qc3, .slice qm3 tx.map.length qn3]).keep hb)
  have V4_a := Lib.hid (V3_a.out.keep HD4.out)
  have V4_b := Lib.hid (V3_b.out.keep HD4.out)
  have V4_v := Lib.hid (V3_v.out.keep HD4.out)
  have V4_x := Lib.hid (N3.out.keep HD4.out)
  have HW4 := Lib.hid (Below.next HW3.out HD4.out)
  clear k3_0 l3_0 k3_1 l3_1 k3_2 l3_2 hb HD4 L3_0 L3_1 L3_2 V3_a V3_b V3_v N3 HW3
  have k4_0 := L4_0.out.cell
  have l4_0 := L4_0.out.lt
  have k4_1 := L4_1.out.cell
  have l4_1 := L4_1.out.lt
  have k4_2 := L4_2.out.cell
  have l4_2 := L4_2.out.lt
  have k4_3 := L4_3.out.cell
  have l4_3 := L4_3.out.lt
  go_wp2_with fail
  refine (C4.out _ _ (V4_a.out.keep (by exact Below.new _ _))).mono ?_
  rintro e w5 ⟨v5, rfl, hr, hb⟩
  obtain ⟨qa5, qc5, qm5, qn5, rfl, -⟩ := hr.inv
  have N5 := Lib.hid (hr.any)
  clear hr
  have HD5 := Lib.hid (show Below w4.heap.size w4 w5 from Below.next (Below.new _ _) hb)
  have L5_0 := Lib.hid (L4_0.out.keep HD5.out)
  have L5_1 := Lib.hid (L4_1.out.keep HD5.out)
  have L5_2 := Lib.hid (L4_2.out.keep HD5.out)
  have L5_3 := Lib.hid (L4_3.out.keep HD5.out)
  have L5_4 := Lib.hid ((Blk.new w4 25 #[.int .i64 ty.kind, .bool ty.bool, .int .i64 ty.int, .string ty.str, .slice qa4 ty.list.length qc4, .slice qm4 ty.map.length qn4]).keep hb)
  have V5_a := Lib.hid (V4_a.out.keep HD5.out)
  have V5_b := Lib.hid (V4_b.out.keep HD5.out)
  have V5_v := Lib.hid (V4_v.out.keep HD5.out)
  have V5_x := Lib.hid (V4_x.out.keep HD5.out)
  have V5_y := Lib.hid (N4.out.keep HD5.out)
  have HW5 := Lib.hid (Below.next HW4.out HD5.out)
  clear k4_0 l4_0 k4_1 l4_1 k4_2 l4_2 k4_3 l4_3 hb HD5 L4_0 L4_1 L4_2 L4_3 V4_a V4_b V4_v V4_x N4 HW4
  have k5_0 := L5_0.out.cell
  have l5_0 := L5_0.out.lt
  have k5_1 := L5_1.out.cell
  have l5_1 := L5_1.out.lt
  have k5_2 := L5_2.out.cell
  have l5_2 := L5_2.out.lt
  have k5_3 := L5_3.out.cell
  have l5_3 := L5_3.out.lt
  have k5_4 := L5_4.out.cell
  have l5_4 := L5_4.out.lt
  rcases hcases with ⟨rfl, rfl, rfl⟩ | ⟨rfl, hx0, rfl⟩ | ⟨rfl, hx5, rfl, hy5⟩ | ⟨rfl, hx0, hx5, rfl, rfl⟩
  · skip
    go_wp2_with fail
    refine (awake3 _).mono ?_
    rintro e w6 ⟨rfl, hb⟩
    have HD6 := Lib.hid (show Below w5.heap.size w5 w6 from Below.next (Below.new _ _) hb)
    have L6_0 := Lib.hid (L5_0.out.keep HD6.out)
    have L6_1 := Lib.hid (L5_1.out.keep HD6.out)
    have L6_2 := Lib.hid (L5_2.out.keep HD6.out)
    have L6_3 := Lib.hid (L5_3.out.keep HD6.out)
    have L6_4 := Lib.hid (L5_4.out.keep HD6.out)
    have L6_5 := Lib.hid ((Blk.new w5 25 #[.int .i64 ty.kind, .bool ty.bool, .int .i64 ty.int, .string ty.str, .slice qa5 ty.list.length qc5, .slice qm5 ty.map.length qn5]).keep hb)
    have V6_a := Lib.hid (V5_a.out.keep HD6.out)
    have V6_b := Lib.hid (V5_b.out.keep HD6.out)
    have V6_v := Lib.hid (V5_v.out.keep HD6.out)
    have V6_x := Lib.hid (V5_x.out.keep HD6.out)
    have V6_y := Lib.hid (V5_y.out.keep HD6.out)
    have V6_z := Lib.hid (N5.out.keep HD6.out)
    have HW6 := Lib.hid (Below.next HW5.out HD6.out)
    clear k5_0 l5_0 k5_1 l5_1 k5_2 l5_2 k5_3 l5_3 k5_4 l5_4 hb HD6 L5_0 L5_1 L5_2 L5_3 L5_4 V5_a V5_b V5_v V5_x V5_y N5 HW5
    have k6_0 := L6_0.out.cell
    have l6_0 := L6_0.out.lt
    have k6_1 := L6_1.out.cell
    have l6_1 := L6_1.out.lt
    have k6_2 := L6_2.out.cell
    have l6_2 := L6_2.out.lt
    have k6_3 := L6_3.out.cell
    have l6_3 := L6_3.out.lt
    have k6_4 := L6_4.out.cell
    have l6_4 := L6_4.out.lt
    have k6_5 := L6_5.out.cell
    have l6_5 := L6_5.out.lt
    go_wp2_with fail
    refine (CS.out _ _ _ _ (V6_y.out) (V6_z.out)).mono ?_
    rintro e w7 ⟨rfl, hb⟩
    have HD7 := Lib.hid (show Below w6.heap.size w6 w7 from hb)
    have L7_0 := Lib.hid (L6_0.out.keep HD7.out)
    have L7_1 := Lib.hid (L6_1.out.keep HD7.out)
    have L7_2 := Lib.hid (L6_2.out.keep HD7.out)
    have L7_3 := Lib.hid (L6_3.out.keep HD7.out)
    have L7_4 := Lib.hid (L6_4.out.keep HD7.out)
    have L7_5 := Lib.hid (L6_5.out.keep HD7.out)
    have V7_a := Lib.hid (V6_a.out.keep HD7.out)
    have V7_b := Lib.hid (V6_b.out.keep HD7.out)
    have V7_v := Lib.hid (V6_v.out.keep HD7.out)
    have V7_x := Lib.hid (V6_x.out.keep HD7.out)
    have V7_y := Lib.hid (V6_y.out.keep HD7.out)
    have V7_z := Lib.hid (V6_z.out.keep HD7.out)
    have HW7 := Lib.hid (Below.next HW6.out HD7.out)
    clear k6_0 l6_0 k6_1 l6_1 k6_2 l6_2 k6_3 l6_3 k6_4 l6_4 k6_5 l6_5 hb HD7 L6_0 L6_1 L6_2 L6_3 L6_4 L6_5 V6_a V6_b V6_v V6_x V6_y V6_z HW6
    have k7_0 := L7_0.out.cell
    have l7_0 := L7_0.out.lt
    have k7_1 := L7_1.out.cell
    have l7_1 := L7_1.out.lt
    have k7_2 := L7_2.out.cell
    have l7_2 := L7_2.out.lt
    have k7_3 := L7_3.out.cell
    have l7_3 := L7_3.out.lt
    have k7_4 := L7_4.out.cell
    have l7_4 := L7_4.out.lt
    have k7_5 := L7_5.out.cell
    have l7_5 := L7_5.out.lt
    go_wp2_with fail
    go_ret
    exact ⟨rfl, HW7.out⟩
  · have gx0 : (tx.kind == 0) = true := by rw [hx0]; rfl
    clear hx0
    go_wp2_with fail
    refine (awake3 _).mono ?_
    rintro e w6 ⟨rfl, hb⟩
    have HD6 := Lib.hid (show Below w5.heap.size w5 w6 from Below.next (Below.new _ _) hb)
    have L6_0 := Lib.hid (L5_0.out.keep HD6.out)
    have L6_1 := Lib.hid (L5_1.out.keep HD6.out)
    have L6_2 := Lib.hid (L5_2.out.keep HD6.out)
    have L6_3 := Lib.hid (L5_3.out.keep HD6.out)
    have L6_4 := Lib.hid (L5_4.out.keep HD6.out)
    have L6_5 := Lib.hid ((Blk.new w5 25 #[.int .i64 ta.kind, .bool ta.bool, .int .i64 ta.int, .string ta.str, .slice qa5 ta.list.length qc5, .slice qm5 ta.map.length qn5]).keep hb)
    have V6_a := Lib.hid (V5_a.out.keep HD6.out)
    have V6_b := Lib.hid (V5_b.out.keep HD6.out)
    have V6_v := Lib.hid (V5_v.out.keep HD6.out)
    have V6_x := Lib.hid (V5_x.out.keep HD6.out)
    have V6_y := Lib.hid (V5_y.out.keep HD6.out)
    have V6_z := Lib.hid (N5.out.keep HD6.out)
    have HW6 := Lib.hid (Below.next HW5.out HD6.out)
    clear k5_0 l5_0 k5_1 l5_1 k5_2 l5_2 k5_3 l5_3 k5_4 l5_4 hb HD6 L5_0 L5_1 L5_2 L5_3 L5_4 V5_a V5_b V5_v V5_x V5_y N5 HW5
    have k6_0 := L6_0.out.cell
    have l6_0 := L6_0.out.lt
    have k6_1 := L6_1.out.cell
    have l6_1 := L6_1.out.lt
    have k6_2 := L6_2.out.cell
    have l6_2 := L6_2.out.lt
    have k6_3 := L6_3.out.cell
    have l6_3 := L6_3.out.lt
    have k6_4 := L6_4.out.cell
    have l6_4 := L6_4.out.lt
    have k6_5 := L6_5.out.cell
    have l6_5 := L6_5.out.lt
    go_wp2_with fail
    go_ret
    exact ⟨rfl, HW6.out⟩
  · have gx0 : (tx.kind == 0) = false := by rw [hx5]; rfl
    have gx5 : (tx.kind == 5) = true := by rw [hx5]; rfl
    have gy5 : (ty.kind == 5) = true := by rw [hy5]; rfl
    clear hx5 hy5
    go_wp2_with fail
    refine (awake3 _).mono ?_
    rintro e w6 ⟨rfl, hb⟩
    have HD6 := Lib.hid (show Below w5.heap.size w5 w6 from Below.next (Below.new _ _) hb)
    have L6_0 := Lib.hid (L5_0.out.keep HD6.out)
    have L6_1 := Lib.hid (L5_1.out.keep HD6.out)
    have L6_2 := Lib.hid (L5_2.out.keep HD6.out)
    have L6_3 := Lib.hid (L5_3.out.keep HD6.out)
    have L6_4 := Lib.hid (L5_4.out.keep HD6.out)
    have L6_5 := Lib.hid ((Blk.new w5 25 #[.int .i64 ta.kind, .bool ta.bool, .int .i64 ta.int, .string ta.str, .slice qa5 ta.list.length qc5, .slice qm5 ta.map.length qn5]).keep hb)
    have V6_a := Lib.hid (V5_a.out.keep HD6.out)
    have V6_b := Lib.hid (V5_b.out.keep HD6.out)
    have V6_v := Lib.hid (V5_v.out.keep HD6.out)
    have V6_x := Lib.hid (V5_x.out.keep HD6.out)
    have V6_y := Lib.hid (V5_y.out.keep HD6.out)
    have V6_z := Lib.hid (N5.out.keep HD6.out)
    have HW6 := Lib.hid (Below.next HW5.out HD6.out)
    clear k5_0 l5_0 k5_1 l5_1 k5_2 l5_2 k5_3 l5_3 k5_4 l5_4 hb HD6 L5_0 L5_1 L5_2 L5_3 L5_4 V5_a V5_b V5_v V5_x V5_y N5 HW5
    have k6_0 := L6_0.out.cell
    have l6_0 := L6_0.out.lt
    have k6_1 := L6_1.out.cell
    have l6_1 := L6_1.out.lt
    have k6_2 := L6_2.out.cell
    have l6_2 := L6_2.out.lt
    have k6_3 := L6_3.out.cell
    have l6_3 := L6_3.out.lt
    have k6_4 := L6_4.out.cell
    have l6_4 := L6_4.out.lt
    have k6_5 := L6_5.out.cell
    have l6_5 := L6_5.out.lt
    go_wp2_with fail
    go_ret
    exact ⟨rfl, HW6.out⟩
  · have gx0 : (ty.kind == 0) = false := beq_eq_false_iff_ne.2 hx0
    have gx5 : (ty.kind == 5) = false := beq_eq_false_iff_ne.2 hx5
    clear hx0 hx5
    go_wp2_with fail
    refine (awake3 _).mono ?_
    rintro e w6 ⟨rfl, hb⟩
    have HD6 := Lib.hid (show Below w5.heap.size w5 w6 from Below.next (Below.new _ _) hb)
    have L6_0 := Lib.hid (L5_0.out.keep HD6.out)
    have L6_1 := Lib.hid (L5_1.out.keep HD6.out)
    have L6_2 := Lib.hid (L5_2.out.keep HD6.out)
    have L6_3 := Lib.hid (L5_3.out.keep HD6.out)
    have L6_4 := Lib.hid (L5_4.out.keep HD6.out)
    have L6_5 := Lib.hid ((Blk.new w5 25 #[.int .i64 ta.kind, .bool ta.bool, .int .i64 ta.int, .string ta.str, .slice qa5 ta.list.length qc5, .slice qm5 ta.map.length qn5]).keep hb)
    have V6_a := Lib.hid (V5_a.out.keep HD6.out)
    have V6_b := Lib.hid (V5_b.out.keep HD6.out)
    have V6_v := Lib.hid (V5_v.out.keep HD6.out)
    have V6_x := Lib.hid (V5_x.out.keep HD6.out)
    have V6_y := Lib.hid (V5_y.out.keep HD6.out)
    have V6_z := Lib.hid (N5.out.keep HD6.out)
    have HW6 := Lib.hid (Below.next HW5.out HD6.out)
    clear k5_0 l5_0 k5_1 l5_1 k5_2 l5_2 k5_3 l5_3 k5_4 l5_4 hb HD6 L5_0 L5_1 L5_2 L5_3 L5_4 V5_a V5_b V5_v V5_x V5_y N5 HW5
    have k6_0 := L6_0.out.cell
    have l6_0 := L6_0.out.lt
    have k6_1 := L6_1.out.cell
    have l6_1 := L6_1.out.lt
    have k6_2 := L6_2.out.cell
    have l6_2 := L6_2.out.lt
    have k6_3 := L6_3.out.cell
    have l6_3 := L6_3.out.lt
    have k6_4 := L6_4.out.cell
    have l6_4 := L6_4.out.lt
    have k6_5 := L6_5.out.cell
    have l6_5 := L6_5.out.lt
    go_wp2_with fail
    refine (CS.out _ _ _ _ (V6_x.out) (V6_y.out)).mono ?_
    rintro e w7 ⟨rfl, hb⟩
    have HD7 := Lib.hid (show Below w6.heap.size w6 w7 from hb)
    have L7_0 := Lib.hid (L6_0.out.keep HD7.out)
    have L7_1 := Lib.hid (L6_1.out.keep HD7.out)
    have L7_2 := Lib.hid (L6_2.out.keep HD7.out)
    have L7_3 := Lib.hid (L6_3.out.keep HD7.out)
    have L7_4 := Lib.hid (L6_4.out.keep HD7.out)
    have L7_5 := Lib.hid (L6_5.out.keep HD7.out)
    have V7_a := Lib.hid (V6_a.out.keep HD7.out)
    have V7_b := Lib.hid (V6_b.out.keep HD7.out)
    have V7_v := Lib.hid (V6_v.out.keep HD7.out)
    have V7_x := Lib.hid (V6_x.out.keep HD7.out)
    have V7_y := Lib.hid (V6_y.out.keep HD7.out)
    have V7_z := Lib.hid (V6_z.out.keep HD7.out)
    have HW7 := Lib.hid (Below.next HW6.out HD7.out)
    clear k6_0 l6_0 k6_1 l6_1 k6_2 l6_2 k6_3 l6_3 k6_4 l6_4 k6_5 l6_5 hb HD7 L6_0 L6_1 L6_2 L6_3 L6_4 L6_5 V6_a V6_b V6_v V6_x V6_y V6_z HW6
    have k7_0 := L7_0.out.cell
    have l7_0 := L7_0.out.lt
    have k7_1 := L7_1.out.cell
    have l7_1 := L7_1.out.lt
    have k7_2 := L7_2.out.cell
    have l7_2 := L7_2.out.lt
    have k7_3 := L7_3.out.cell
    have l7_3 := L7_3.out.lt
    have k7_4 := L7_4.out.cell
    have l7_4 := L7_4.out.lt
    have k7_5 := L7_5.out.cell
    have l7_5 := L7_5.out.lt
    go_wp2_with fail
    go_ret
    exact ⟨rfl, HW7.out⟩

end Go.Proofs.Ytmdihildjblgnaa
