/- TreePuts answers true for every input. -/
import Derived.Test.YtmdihildjblgnaaAwake
import Derived.Test.YtmdihildjblgnaaDelete
import Derived.Test.YtmdihildjblgnaaText
import Derived.Deep.RegionHeld3
import Derived.Deep.DrawnRows
namespace Go.Proofs.Ytmdihildjblgnaa
open Go.RowKit
attribute [local go_sem ↓] Go.wp_at_zero Go.wp_at_succ

/-- What the law's trees are. -/
theorem puts_pure {v x y : T} {key other : ByteArray} (hv : Good v) (h5 : v.kind = 5) : ∃ p q d : T, putT v key x = p ∧ putT v key y = q ∧ putT q key x = p ∧ putT p key x = p ∧ dropT p key = d ∧
    KS v.map ∧ KS p.map ∧ KS d.map ∧ (v.map.length + 1) * 104 ≤ 140737488355328 ∧ (q.map.length + 1) * 104 ≤ 140737488355328 ∧ (p.map.length + 1) * 104 ≤ 140737488355328 ∧ getT p key = some x ∧ getT d key = none ∧
    getT p other = if key = other then some x else getT v other := by
  have hks := hv.KS
  have hl := hv.mlen
  have hb : baseM v = v.map := if_pos h5
  have hp : ∀ z, putT v key z = mkMap (ins v.map key z) := fun z => by unfold putT; rw [hb, mapT_self hks]
  have hpp : ∀ M z, KS M → putT (mkMap M) key z = mkMap (ins M key z) := fun M z hM => by
    unfold putT baseM
    rw [if_pos (show (mkMap M).kind = 5 from rfl), show (mkMap M).map = M from rfl, mapT_self hM]
  have k1 := ins_KS hks key x
  have k2 := ins_KS hks key y
  have l1 := ins_length v.map key x
  have l2 := ins_length v.map key y
  have hg : ∀ M k, getT (mkMap M) k = look M k := fun M k => if_pos rfl
  refine ⟨mkMap (ins v.map key x), mkMap (ins v.map key y), dropT (mkMap (ins v.map key x)) key, hp x, hp y, ?_, ?_, rfl, hks, k1, del_KS k1 key, by omega, ?_, ?_, ?_, ?_, ?_⟩
  · rw [hpp _ _ k2, ins_ins _ _ _ _ hks]
  · rw [hpp _ _ k1, ins_ins _ _ _ _ hks]
  · show ((ins v.map key y).length + 1) * 104 ≤ _; omega
  · show ((ins v.map key x).length + 1) * 104 ≤ _; omega
  · rw [hg, look_ins _ _ _ hks, if_pos rfl]
  · show (if (5 : Int) = 5 then look (del (ins v.map key x) key) key else none) = none
    rw [if_pos rfl, look_del, if_pos rfl]
  · rw [hg, look_ins _ _ _ hks]
    unfold getT; rw [if_pos h5]

set_option maxRecDepth 100000 in
set_option maxHeartbeats 8000000 in
theorem puts (v x y : T) (key other : ByteArray) (vv vx vy : Value) (w : World) (hv : RepT w (fun _ => True) vv v) (hx : RepT w (fun _ => True) vx x) (hy : RepT w (fun _ => True) vy y) (hk : key.size ≤ 140737488351232) (ho : other.size ≤ 140737488351232) :
    Calls Try.prog 3 #[vv, vx, vy, .string key, .string other] w fun e w' => e = .returned (.bool true) ∧ Below w.heap.size w w' := by
  obtain ⟨la, lc, ma, mc, rfl, -⟩ := hv.inv
  obtain ⟨la2, lc2, ma2, mc2, rfl, -⟩ := hx.inv
  obtain ⟨la3, lc3, ma3, mc3, rfl, -⟩ := hy.inv
  have H_v := Lib.hid hv
  have H_x := Lib.hid hx
  have H_y := Lib.hid hy
  clear hv hx hy
  have RK := Lib.hid (fun w => rkey key w hk)
  have RO := Lib.hid (fun w => rkey other w ho)
  go_enter Try.func3, Try.ntmps3
  go_wp2_with fail
  refine (right [v, x, y] _ (fun _ => True) _ 3 (repE_L.1 (rep_block (E := eltV) (S := fun _ => True) (l := [v, x, y]) [[.int .i64 v.kind, .bool v.bool, .int .i64 v.int, .string v.str, .slice la v.list.length lc, .slice ma v.map.length mc], [.int .i64 x.kind, .bool x.bool, .int .i64 x.int, .string x.str, .slice la2 x.list.length lc2, .slice ma2 x.map.length mc2], [.int .i64 y.kind, .bool y.bool, .int .i64 y.int, .string y.str, .slice la3 y.list.length lc3, .slice ma3 y.map.length mc3]] (Blk.new_at (((w.alloc (.cells #[.int .i64 v.kind, .bool v.bool, .int .i64 v.int, .string v.str, .slice la v.list.length lc, .slice ma v.map.length mc] 25)).alloc (.cells #[.int .i64 x.kind, .bool x.bool, .int .i64 x.int, .string x.str, .slice la2 x.list.length lc2, .slice ma2 x.map.length mc2] 25)).alloc (.cells #[.int .i64 y.kind, .bool y.bool, .int .i64 y.int, .string y.str, .slice la3 y.list.length lc3, .slice ma3 y.map.length mc3] 25)) 25 #[.int .i64 v.kind, .bool v.bool, .int .i64 v.int, .string v.str, .slice la v.list.length lc, .slice ma v.map.length mc, .int .i64 x.kind, .bool x.bool, .int .i64 x.int, .string x.str, .slice la2 x.list.length lc2, .slice ma2 x.map.length mc2, .int .i64 y.kind, .bool y.bool, .int .i64 y.int, .string y.str, .slice la3 y.list.length lc3, .slice ma3 y.map.length mc3] (n := w.heap.size + 1 + 1 + 1) (by simp)) rfl trivial ⟨(H_v.out.keep (by exact (((Below.new _ _).alloc (by simp) _).alloc (by simp; omega) _).alloc (by simp; omega) _)), (H_x.out.keep (by exact (((Below.new _ _).alloc (by simp) _).alloc (by simp; omega) _).alloc (by simp; omega) _)), (H_y.out.keep (by exact (((Below.new _ _).alloc (by simp) _).alloc (by simp; omega) _).alloc (by simp; omega) _)), trivial⟩)) (by simp)).mono ?_
  rintro e w1 ⟨r, rfl, hr, hb⟩
  have HD1 := Lib.hid (show Below w.heap.size w w1 from Below.next ((((Below.new _ _).alloc (by simp) _).alloc (by simp; omega) _).alloc (by simp; omega) _) hb)
  have L1_0 := Lib.hid (((((Blk.new w 25 #[.int .i64 v.kind, .bool v.bool, .int .i64 v.int, .string v.str, .slice la v.list.length lc, .slice ma v.map.length mc]).alloc (.cells #[.int .i64 x.kind, .bool x.bool, .int .i64 x.int, .string x.str, .slice la2 x.list.length lc2, .slice ma2 x.map.length mc2] 25)).alloc (.cells #[.int .i64 y.kind, .bool y.bool, .int .i64 y.int, .string y.str, .slice la3 y.list.length lc3, .slice ma3 y.map.length mc3] 25)).alloc (.cells #[.int .i64 v.kind, .bool v.bool, .int .i64 v.int, .string v.str, .slice la v.list.length lc, .slice ma v.map.length mc, .int .i64 x.kind, .bool x.bool, .int .i64 x.int, .string x.str, .slice la2 x.list.length lc2, .slice ma2 x.map.length mc2, .int .i64 y.kind, .bool y.bool, .int .i64 y.int, .string y.str, .slice la3 y.list.length lc3, .slice ma3 y.map.length mc3] 25)).keep hb)
  have L1_1 := Lib.hid ((((Blk.new_at (w.alloc (.cells #[.int .i64 v.kind, .bool v.bool, .int .i64 v.int, .string v.str, .slice la v.list.length lc, .slice ma v.map.length mc] 25)) 25 #[.int .i64 x.kind, .bool x.bool, .int .i64 x.int, .string x.str, .slice la2 x.list.length lc2, .slice ma2 x.map.length mc2] (n := w.heap.size + 1) (by simp)).alloc (.cells #[.int .i64 y.kind, .bool y.bool, .int .i64 y.int, .string y.str, .slice la3 y.list.length lc3, .slice ma3 y.map.length mc3] 25)).alloc (.cells #[.int .i64 v.kind, .bool v.bool, .int .i64 v.int, .string v.str, .slice la v.list.length lc, .slice ma v.map.length mc, .int .i64 x.kind, .bool x.bool, .int .i64 x.int, .string x.str, .slice la2 x.list.length lc2, .slice ma2 x.map.length mc2, .int .i64 y.kind, .bool y.bool, .int .i64 y.int, .string y.str, .slice la3 y.list.length lc3, .slice ma3 y.map.length mc3] 25)).keep hb)
  have L1_2 := Lib.hid (((Blk.new_at ((w.alloc (.cells #[.int .i64 v.kind, .bool v.bool, .int .i64 v.int, .string v.str, .slice la v.list.length lc, .slice ma v.map.length mc] 25)).alloc (.cells #[.int .i64 x.kind, .bool x.bool, .int .i64 x.int, .string x.str, .slice la2 x.list.length lc2, .slice ma2 x.map.length mc2] 25)) 25 #[.int .i64 y.kind, .bool y.bool, .int .i64 y.int, .string y.str, .slice la3 y.list.length lc3, .slice ma3 y.map.length mc3] (n := w.heap.size + 1 + 1) (by simp)).alloc (.cells #[.int .i64 v.kind, .bool v.bool, .int .i64 v.int, .string v.str, .slice la v.list.length lc, .slice ma v.map.length mc, .int .i64 x.kind, .bool x.bool, .int .i64 x.int, .string x.str, .slice la2 x.list.length lc2, .slice ma2 x.map.length mc2, .int .i64 y.kind, .bool y.bool, .int .i64 y.int, .string y.str, .slice la3 y.list.length lc3, .slice ma3 y.map.length mc3] 25)).keep hb)
  have V1_v := Lib.hid (H_v.out.keep HD1.out)
  have V1_x := Lib.hid (H_x.out.keep HD1.out)
  have V1_y := Lib.hid (H_y.out.keep HD1.out)
  have HW1 := Lib.hid (show Below w.heap.size w w1 from HD1.out)
  clear hb HD1 H_v H_x H_y
  have k1_0 := L1_0.out.cell
  have l1_0 := L1_0.out.lt
  have k1_1 := L1_1.out.cell
  have l1_1 := L1_1.out.lt
  have k1_2 := L1_2.out.cell
  have l1_2 := L1_2.out.lt
  have HR := Lib.hid hr
  clear hr
  cases r
  · go_wp2_with (go_at_call 24; refine (awake1 _).mono ?_; rintro e w9 ⟨rfl, hb9⟩)
    go_ret
    exact ⟨rfl, Below.next HW1.out hb9⟩
  have hg : Good v := HR.out rfl v (by simp)
  by_cases h5 : v.kind = 5
  case neg =>
    have g5 : (v.kind != 5) = true := bne_iff_ne.2 h5
    clear h5
    go_wp2_with (go_at_call 24; refine (awake1 _).mono ?_; rintro e w9 ⟨rfl, hb9⟩)
    go_ret
    exact ⟨rfl, Below.next HW1.out hb9⟩
  have HP := Lib.hid (puts_pure (x := x) (y := y) (key := key) (other := other) hg h5)
  have g5 : (v.kind != 5) = false := by rw [h5]; rfl
  clear h5 hg
  cases hkb : keyB key
  case false =>
    rw [hkb] at RK
    clear hkb
    go_wp2_with (first | (go_at_call 23; first | ((with_reducible refine (RK.out _).mono ?_); rintro e w8 ⟨rfl, rfl⟩) | ((with_reducible refine (RO.out _).mono ?_); rintro e w8 ⟨rfl, rfl⟩)) | (go_at_call 24; refine (awake1 _).mono ?_; rintro e w9 ⟨rfl, hb9⟩))
    go_ret
    exact ⟨rfl, Below.next HW1.out hb9⟩
  rw [hkb] at RK
  clear hkb
  cases hob : keyB other
  case false =>
    rw [hob] at RO
    clear hob
    go_wp2_with (first | (go_at_call 23; first | ((with_reducible refine (RK.out _).mono ?_); rintro e w8 ⟨rfl, rfl⟩) | ((with_reducible refine (RO.out _).mono ?_); rintro e w8 ⟨rfl, rfl⟩)) | (go_at_call 24; refine (awake1 _).mono ?_; rintro e w9 ⟨rfl, hb9⟩))
    go_ret
    exact ⟨rfl, Below.next HW1.out hb9⟩
  rw [hob] at RO
  clear hob
  obtain ⟨p, q, d, e1, e2, e3, e4, e5, k1, k2, k3, z1, z2, z3, g1, g2, g3⟩ := HP.out
  have C1 : Hid (∀ (w : World) (a : Value) (b : Value), RepT w (fun _ => True) a v → RepT w (fun _ => True) b x → Calls Try.prog 25 #[a, .string key, b] w (NewPost w p)) := fun w a b h0 h1 => e1 ▸ tput v x key a b w _ _ h0 h1 hk z1
  have C2 : Hid (∀ (w : World) (a : Value), RepT w (fun _ => True) a p → Calls Try.prog 26 #[a, .string key] w (GotPost w x)) := fun w a h0 => tget_some g1 a w _ h0 k2
  have C3 : Hid (∀ (w : World) (a : Value), RepT w (fun _ => True) a v → Calls Try.prog 26 #[a, .string other] w (GotB w (getT v other).isSome ((getT v other).getD T.zero))) := fun w a h0 => tget_b rfl rfl a w _ h0 k1
  have C4 : Hid (∀ (w : World) (a : Value), RepT w (fun _ => True) a p → Calls Try.prog 26 #[a, .string other] w (GotB w (getT p other).isSome ((getT p other).getD T.zero))) := fun w a h0 => tget_b rfl rfl a w _ h0 k2
  have C5 : Hid (∀ (w : World) (a : Value), RepT w (fun _ => True) a p → Calls Try.prog 27 #[a, .string key] w (NewPost w d)) := fun w a h0 => e5 ▸ tdrop p key a w _ h0
  have C6 : Hid (∀ (w : World) (a : Value), RepT w (fun _ => True) a d → Calls Try.prog 26 #[a, .string key] w (NonePost w)) := fun w a h0 => tget_none g2 a w _ h0 k3
  have C7 : Hid (∀ (w : World) (a : Value) (b : Value), RepT w (fun _ => True) a x → RepT w (fun _ => True) b x → Calls Try.prog 28 #[a, b] w (fun e w' => e = .returned (.bool true) ∧ Below w.heap.size w w')) := fun w a b h0 h1 => rsame_true rfl w _ _ a b h0 h1
  have C8 : Hid (∀ (w : World) (a : Value) (b : Value), RepT w (fun _ => True) a v → RepT w (fun _ => True) b y → Calls Try.prog 25 #[a, .string key, b] w (NewPost w q)) := fun w a b h0 h1 => e2 ▸ tput v y key a b w _ _ h0 h1 hk z1
  have C9 : Hid (∀ (w : World) (a : Value) (b : Value), RepT w (fun _ => True) a q → RepT w (fun _ => True) b x → Calls Try.prog 25 #[a, .string key, b] w (NewPost w p)) := fun w a b h0 h1 => by have := tput q x key a b w _ _ h0 h1 hk z2; rw [e3] at this; exact this
  have C10 : Hid (∀ (w : World) (a : Value) (b : Value), RepT w (fun _ => True) a p → RepT w (fun _ => True) b x → Calls Try.prog 25 #[a, .string key, b] w (NewPost w p)) := fun w a b h0 h1 => by have := tput p x key a b w _ _ h0 h1 hk z3; rw [e4] at this; exact this
  have C11 : Hid (∀ (w : World) (a : Value) (b : Value), RepT w (fun _ => True) a p → RepT w (fun _ => True) b p → Calls Try.prog 28 #[a, b] w (fun e w' => e = .returned (.bool true) ∧ Below w.heap.size w w')) := fun w a b h0 h1 => rsame_true rfl w _ _ a b h0 h1
  have C12 : Hid (key ≠ other → ∀ (w : World) (a b : Value), RepT w (fun _ => True) a ((getT v other).getD T.zero) → RepT w (fun _ => True) b ((getT p other).getD T.zero) → Calls Try.prog 28 #[a, b] w (fun e w' => e = .returned (.bool true) ∧ Below w.heap.size w w')) := fun hne w a b h0 h1 => rsame_true (by rw [g3, if_neg hne]) w _ _ a b h0 h1
  have HIS : Hid (key ≠ other → (getT p other).isSome = (getT v other).isSome) := fun hne => by rw [g3, if_neg hne]
  clear e1 e2 e3 e4 e5 k1 k2 k3 z1 z2 z3 g1 g2 g3
  generalize (getT v other).isSome = bi at *
  generalize (getT v other).getD T.zero = ta at *
  generalize (getT p other).isSome = bj at *
  generalize (getT p other).getD T.zero = tb at *
  go_wp2_with (first | (go_at_call 23; first | ((with_reducible refine (RK.out _).mono ?_); rintro e w8 ⟨rfl, rfl⟩) | ((with_reducible refine (RO.out _).mono ?_); rintro e w8 ⟨rfl, rfl⟩)))
  clear g5
  refine (C1.out _ _ _ (V1_v.out) (V1_x.out)).mono ?_
  rintro e w2 ⟨v2, rfl, hr, hb⟩
  obtain ⟨qa2, qc2, qm2, qn2, rfl, -⟩ := hr.inv
  have N2 := Lib.hid (hr.any)
  clear hr
  have HD2 := Lib.hid (show Below w1.heap.size w1 w2 from hb)
  have L2_0 := Lib.hid (L1_0.out.keep HD2.out)
  have L2_1 := Lib.hid (L1_1.out.keep HD2.out)
  have L2_2 := Lib.hid (L1_2.out.keep HD2.out)
  have V2_v := Lib.hid (V1_v.out.keep HD2.out)
  have V2_x := Lib.hid (V1_x.out.keep HD2.out)
  have V2_y := Lib.hid (V1_y.out.keep HD2.out)
  have HW2 := Lib.hid (Below.next HW1.out HD2.out)
  clear k1_0 l1_0 k1_1 l1_1 k1_2 l1_2 hb HD2 L1_0 L1_1 L1_2 V1_v V1_x V1_y HW1
  have k2_0 := L2_0.out.cell
  have l2_0 := L2_0.out.lt
  have k2_1 := L2_1.out.cell
  have l2_1 := L2_1.out.lt
  have k2_2 := L2_2.out.cell
  have l2_2 := L2_2.out.lt
  go_wp2_with fail
  refine (C2.out _ _ (N2.out.keep (by exact Below.new _ _))).mono ?_
  rintro e w3 ⟨v3, rfl, hr, hb⟩
  obtain ⟨qa3, qc3, qm3, qn3, rfl, -⟩ := hr.inv
  have N3 := Lib.hid (hr.any)
  clear hr
  have HD3 := Lib.hid (show Below w2.heap.size w2 w3 from Below.next (Below.new _ _) hb)
  have L3_0 := Lib.hid (L2_0.out.keep HD3.out)
  have L3_1 := Lib.hid (L2_1.out.keep HD3.out)
  have L3_2 := Lib.hid (L2_2.out.keep HD3.out)
  have L3_3 := Lib.hid ((Blk.new w2 25 #[.int .i64 p.kind, .bool p.bool, .int .i64 p.int, .string p.str, .slice qa2 p.list.length qc2, .slice qm2 p.map.length qn2]).keep hb)
  have V3_v := Lib.hid (V2_v.out.keep HD3.out)
  have V3_x := Lib.hid (V2_x.out.keep HD3.out)
  have V3_y := Lib.hid (V2_y.out.keep HD3.out)
  have V3_p := Lib.hid (N2.out.keep HD3.out)
  have HW3 := Lib.hid (Below.next HW2.out HD3.out)
  clear k2_0 l2_0 k2_1 l2_1 k2_2 l2_2 hb HD3 L2_0 L2_1 L2_2 V2_v V2_x V2_y N2 HW2
  have k3_0 := L3_0.out.cell
  have l3_0 := L3_0.out.lt
  have k3_1 := L3_1.out.cell
  have l3_1 := L3_1.out.lt
  have k3_2 := L3_2.out.cell
  have l3_2 := L3_2.out.lt
  have k3_3 := L3_3.out.cell
  have l3_3 := L3_3.out.lt
  go_wp2_with fail
  refine (C3.out _ _ (V3_v.out.keep (by exact Below.new _ _))).mono ?_
  rintro e w4 ⟨v4, rfl, hr, hb⟩
  obtain ⟨qa4, qc4, qm4, qn4, rfl, -⟩ := hr.inv
  have N4 := Lib.hid (hr.any)
  clear hr
  have HD4 := Lib.hid (show Below w3.heap.size w3 w4 from Below.next (Below.new _ _) hb)
  have L4_0 := Lib.hid (L3_0.out.keep HD4.out)
  have L4_1 := Lib.hid (L3_1.out.keep HD4.out)
  have L4_2 := Lib.hid (L3_2.out.keep HD4.out)
  have L4_3 := Lib.hid (L3_3.out.keep HD4.out)
  have L4_4 := Lib.hid ((Blk.new w3 25 #[.int .i64 x.kind, .bool x.bool, .int .i64 x.int, .string x.str, .slice qa3 x.list.length qc3, .slice qm3 x.map.length qn3]).keep hb)
  have V4_v := Lib.hid (V3_v.out.keep HD4.out)
  have V4_x := Lib.hid (V3_x.out.keep HD4.out)
  have V4_y := Lib.hid (V3_y.out.keep HD4.out)
  have V4_p := Lib.hid (V3_p.out.keep HD4.out)
  have V4_got := Lib.hid (N3.out.keep HD4.out)
  have HW4 := Lib.hid (Below.next HW3.out HD4.out)
  clear k3_0 l3_0 k3_1 l3_1 k3_2 l3_2 k3_3 l3_3 hb HD4 L3_0 L3_1 L3_2 L3_3 V3_v V3_x V3_y V3_p N3 HW3
  have k4_0 := L4_0.out.cell
  have l4_0 := L4_0.out.lt
  have k4_1 := L4_1.out.cell
  have l4_1 := L4_1.out.lt
  have k4_2 := L4_2.out.cell
  have l4_2 := L4_2.out.lt
  have k4_3 := L4_3.out.cell
  have l4_3 := L4_3.out.lt
  have k4_4 := L4_4.out.cell
  have l4_4 := L4_4.out.lt
  go_wp2_with fail
  refine (C4.out _ _ (V4_p.out.keep (by exact Below.new _ _))).mono ?_
  rintro e w5 ⟨v5, rfl, hr, hb⟩
  obtain ⟨qa5, qc5, qm5, qn5, rfl, -⟩ := hr.inv
  have N5 := Lib.hid (hr.any)
  clear hr
  have HD5 := Lib.hid (show Below w4.heap.size w4 w5 from Below.next (Below.new _ _) hb)
  have L5_0 := Lib.hid (L4_0.out.keep HD5.out)
  have L5_1 := Lib.hid (L4_1.out.keep HD5.out)
  have L5_2 := Lib.hid (L4_2.out.keep HD5.out)
  have L5_3 := Lib.hid (L4_3.out.keep HD5.out)
  have L5_4 := Lib.hid (L4_4.out.keep HD5.out)
  have L5_5 := Lib.hid ((Blk.new w4 25 #[.int .i64 ta.kind, .bool ta.bool, .int .i64 ta.int, .string ta.str, .slice qa4 ta.list.length qc4, .slice qm4 ta.map.length qn4]).keep hb)
  have V5_v := Lib.hid (V4_v.out.keep HD5.out)
  have V5_x := Lib.hid (V4_x.out.keep HD5.out)
  have V5_y := Lib.hid (V4_y.out.keep HD5.out)
  have V5_p := Lib.hid (V4_p.out.keep HD5.out)
  have V5_got := Lib.hid (V4_got.out.keep HD5.out)
  have V5_a := Lib.hid (N4.out.keep HD5.out)
  have HW5 := Lib.hid (Below.next HW4.out HD5.out)
  clear k4_0 l4_0 k4_1 l4_1 k4_2 l4_2 k4_3 l4_3 k4_4 l4_4 hb HD5 L4_0 L4_1 L4_2 L4_3 L4_4 V4_v V4_x V4_y V4_p V4_got N4 HW4
  have k5_0 := L5_0.out.cell
  have l5_0 := L5_0.out.lt
  have k5_1 := L5_1.out.cell
  have l5_1 := L5_1.out.lt
  have k5_2 := L5_2.out.cell
  have l5_2 := L5_2.out.lt
  have k5_3 := L5_3.out.cell
  have l5_3 := L5_3.out.lt
  have k5_4 := L5_4.out.cell
  have l5_4 := L5_4.out.lt
  have k5_5 := L5_5.out.cell
  have l5_5 := L5_5.out.lt
  go_wp2_with fail
  refine (C5.out _ _ (V5_p.out.keep (by exact Below.new _ _))).mono ?_
  rintro e w6 ⟨v6, rfl, hr, hb⟩
  obtain ⟨qa6, qc6, qm6, qn6, rfl, -⟩ := hr.inv
  have N6 := Lib.hid (hr.any)
  clear hr
  have HD6 := Lib.hid (show Below w5.heap.size w5 w6 from Below.next (Below.new _ _) hb)
  have L6_0 := Lib.hid (L5_0.out.keep HD6.out)
  have L6_1 := Lib.hid (L5_1.out.keep HD6.out)
  have L6_2 := Lib.hid (L5_2.out.keep HD6.out)
  have L6_3 := Lib.hid (L5_3.out.keep HD6.out)
  have L6_4 := Lib.hid (L5_4.out.keep HD6.out)
  have L6_5 := Lib.hid (L5_5.out.keep HD6.out)
  have L6_6 := Lib.hid ((Blk.new w5 25 #[.int .i64 tb.kind, .bool tb.bool, .int .i64 tb.int, .string tb.str, .slice qa5 tb.list.length qc5, .slice qm5 tb.map.length qn5]).keep hb)
  have V6_v := Lib.hid (V5_v.out.keep HD6.out)
  have V6_x := Lib.hid (V5_x.out.keep HD6.out)
  have V6_y := Lib.hid (V5_y.out.keep HD6.out)
  have V6_p := Lib.hid (V5_p.out.keep HD6.out)
  have V6_got := Lib.hid (V5_got.out.keep HD6.out)
  have V6_a := Lib.hid (V5_a.out.keep HD6.out)
  have V6_b := Lib.hid (N5.out.keep HD6.out)
  have HW6 := Lib.hid (Below.next HW5.out HD6.out)
  clear k5_0 l5_0 k5_1 l5_1 k5_2 l5_2 k5_3 l5_3 k5_4 l5_4 k5_5 l5_5 hb HD6 L5_0 L5_1 L5_2 L5_3 L5_4 L5_5 V5_v V5_x V5_y V5_p V5_got V5_a N5 HW5
  have k6_0 := L6_0.out.cell
  have l6_0 := L6_0.out.lt
  have k6_1 := L6_1.out.cell
  have l6_1 := L6_1.out.lt
  have k6_2 := L6_2.out.cell
  have l6_2 := L6_2.out.lt
  have k6_3 := L6_3.out.cell
  have l6_3 := L6_3.out.lt
  have k6_4 := L6_4.out.cell
  have l6_4 := L6_4.out.lt
  have k6_5 := L6_5.out.cell
  have l6_5 := L6_5.out.lt
  have k6_6 := L6_6.out.cell
  have l6_6 := L6_6.out.lt
  go_wp2_with fail
  refine (C6.out _ _ (N6.out)).mono ?_
  rintro e w7 ⟨v7, rfl, hr, hb⟩
  obtain ⟨qa7, qc7, qm7, qn7, rfl, -⟩ := hr.inv
  have N7 := Lib.hid (hr.any)
  clear hr
  have HD7 := Lib.hid (show Below w6.heap.size w6 w7 from hb)
  have L7_0 := Lib.hid (L6_0.out.keep HD7.out)
  have L7_1 := Lib.hid (L6_1.out.keep HD7.out)
  have L7_2 := Lib.hid (L6_2.out.keep HD7.out)
  have L7_3 := Lib.hid (L6_3.out.keep HD7.out)
  have L7_4 := Lib.hid (L6_4.out.keep HD7.out)
  have L7_5 := Lib.hid (L6_5.out.keep HD7.out)
  have L7_6 := Lib.hid (L6_6.out.keep HD7.out)
  have V7_v := Lib.hid (V6_v.out.keep HD7.out)
  have V7_x := Lib.hid (V6_x.out.keep HD7.out)
  have V7_y := Lib.hid (V6_y.out.keep HD7.out)
  have V7_p := Lib.hid (V6_p.out.keep HD7.out)
  have V7_got := Lib.hid (V6_got.out.keep HD7.out)
  have V7_a := Lib.hid (V6_a.out.keep HD7.out)
  have V7_b := Lib.hid (V6_b.out.keep HD7.out)
  have V7_d := Lib.hid (N6.out.keep HD7.out)
  have HW7 := Lib.hid (Below.next HW6.out HD7.out)
  clear k6_0 l6_0 k6_1 l6_1 k6_2 l6_2 k6_3 l6_3 k6_4 l6_4 k6_5 l6_5 k6_6 l6_6 hb HD7 L6_0 L6_1 L6_2 L6_3 L6_4 L6_5 L6_6 V6_v V6_x V6_y V6_p V6_got V6_a V6_b N6 HW6
  have k7_0 := L7_0.out.cell
  have l7_0 := L7_0.out.lt
  have k7_1 := L7_1.out.cell
  have l7_1 := L7_1.out.lt
  have k7_2 := L7_2.out.cell
  have l7_2 := L7_2.out.lt
  have k7_3 := L7_3.out.cell
  have l7_3 := L7_3.out.lt
  have k7_4 := L7_4.out.cell
  have l7_4 := L7_4.out.lt
  have k7_5 := L7_5.out.cell
  have l7_5 := L7_5.out.lt
  have k7_6 := L7_6.out.cell
  have l7_6 := L7_6.out.lt
  go_wp2_with fail
  refine (C7.out _ _ _ (V7_got.out.keep (by exact Below.new _ _)) (V7_x.out.keep (by exact Below.new _ _))).mono ?_
  rintro e w8 ⟨rfl, hb⟩
  have HD8 := Lib.hid (show Below w7.heap.size w7 w8 from Below.next (Below.new _ _) hb)
  have L8_0 := Lib.hid (L7_0.out.keep HD8.out)
  have L8_1 := Lib.hid (L7_1.out.keep HD8.out)
  have L8_2 := Lib.hid (L7_2.out.keep HD8.out)
  have L8_3 := Lib.hid (L7_3.out.keep HD8.out)
  have L8_4 := Lib.hid (L7_4.out.keep HD8.out)
  have L8_5 := Lib.hid (L7_5.out.keep HD8.out)
  have L8_6 := Lib.hid (L7_6.out.keep HD8.out)
  have V8_v := Lib.hid (V7_v.out.keep HD8.out)
  have V8_x := Lib.hid (V7_x.out.keep HD8.out)
  have V8_y := Lib.hid (V7_y.out.keep HD8.out)
  have V8_p := Lib.hid (V7_p.out.keep HD8.out)
  have V8_got := Lib.hid (V7_got.out.keep HD8.out)
  have V8_a := Lib.hid (V7_a.out.keep HD8.out)
  have V8_b := Lib.hid (V7_b.out.keep HD8.out)
  have V8_d := Lib.hid (V7_d.out.keep HD8.out)
  have V8_z := Lib.hid (N7.out.keep HD8.out)
  have HW8 := Lib.hid (Below.next HW7.out HD8.out)
  clear k7_0 l7_0 k7_1 l7_1 k7_2 l7_2 k7_3 l7_3 k7_4 l7_4 k7_5 l7_5 k7_6 l7_6 hb HD8 L7_0 L7_1 L7_2 L7_3 L7_4 L7_5 L7_6 V7_v V7_x V7_y V7_p V7_got V7_a V7_b V7_d N7 HW7
  have k8_0 := L8_0.out.cell
  have l8_0 := L8_0.out.lt
  have k8_1 := L8_1.out.cell
  have l8_1 := L8_1.out.lt
  have k8_2 := L8_2.out.cell
  have l8_2 := L8_2.out.lt
  have k8_3 := L8_3.out.cell
  have l8_3 := L8_3.out.lt
  have k8_4 := L8_4.out.cell
  have l8_4 := L8_4.out.lt
  have k8_5 := L8_5.out.cell
  have l8_5 := L8_5.out.lt
  have k8_6 := L8_6.out.cell
  have l8_6 := L8_6.out.lt
  by_cases hko : key = other
  · have hkt : (key.toList == other.toList) = true := by rw [hko]; simp
    clear hko
    go_wp2_with fail
    have tok1 : True := trivial
    have tok2 : True := trivial
    have tok3 : True := trivial
    have tok4 : True := trivial
    have tok5 : True := trivial
    have q_0 := L8_0.out.cell
    have q_1 := L8_1.out.cell
    have q_2 := L8_2.out.cell
    have q_3 := L8_3.out.cell
    clear k8_0 k8_1 k8_2 k8_3 k8_4 k8_5 k8_6
    go_region_held3 (fun w' => (∀ i, w'.cell? ⟨w.heap.size, i, none⟩ = (#[.int .i64 v.kind, .bool v.bool, .int .i64 v.int, .string v.str, .slice la v.list.length lc, .slice ma v.map.length mc] : Array Value)[i]?) ∧ (∀ i, w'.cell? ⟨w.heap.size + 1, i, none⟩ = (#[.int .i64 x.kind, .bool x.bool, .int .i64 x.int, .string x.str, .slice la2 x.list.length lc2, .slice ma2 x.map.length mc2] : Array Value)[i]?) ∧ (∀ i, w'.cell? ⟨w.heap.size + 1 + 1, i, none⟩ = (#[.int .i64 y.kind, .bool y.bool, .int .i64 y.int, .string y.str, .slice la3 y.list.length lc3, .slice ma3 y.map.length mc3] : Array Value)[i]?) ∧ (∀ i, w'.cell? ⟨w2.heap.size, i, none⟩ = (#[.int .i64 p.kind, .bool p.bool, .int .i64 p.int, .string p.str, .slice qa2 p.list.length qc2, .slice qm2 p.map.length qn2] : Array Value)[i]?)) (exact ⟨q_0, q_1, q_2, q_3⟩) (first
            | (go_at_call 24; have _t := tok1; refine (awake1 _).mono ?_; rintro e w9 ⟨rfl, hb⟩; have HD9 := Lib.hid (show Below w8.heap.size w8 w9 from Below.next ((Below.refl _ _).drew) hb); have L9_0 := Lib.hid (L8_0.out.keep HD9.out); have L9_1 := Lib.hid (L8_1.out.keep HD9.out); have L9_2 := Lib.hid (L8_2.out.keep HD9.out); have L9_3 := Lib.hid (L8_3.out.keep HD9.out); have L9_4 := Lib.hid (L8_4.out.keep HD9.out); have L9_5 := Lib.hid (L8_5.out.keep HD9.out); have L9_6 := Lib.hid (L8_6.out.keep HD9.out); have V9_v := Lib.hid (V8_v.out.keep HD9.out); have V9_x := Lib.hid (V8_x.out.keep HD9.out); have V9_y := Lib.hid (V8_y.out.keep HD9.out); have V9_p := Lib.hid (V8_p.out.keep HD9.out); have V9_got := Lib.hid (V8_got.out.keep HD9.out); have V9_a := Lib.hid (V8_a.out.keep HD9.out); have V9_b := Lib.hid (V8_b.out.keep HD9.out); have V9_d := Lib.hid (V8_d.out.keep HD9.out); have V9_z := Lib.hid (V8_z.out.keep HD9.out); have HW9 := Lib.hid (Below.next HW8.out HD9.out); clear q_0; clear q_1; clear q_2; clear q_3; have q_0 := L9_0.out.cell; have q_1 := L9_1.out.cell; have q_2 := L9_2.out.cell; have q_3 := L9_3.out.cell; clear tok1)
            | (go_at_call 25; have _t := tok2; refine (C8.out _ _ _ (V9_v.out) (V9_y.out)).mono ?_; rintro e w10 ⟨v10, rfl, hr, hb⟩; obtain ⟨qa10, qc10, qm10, qn10, rfl, -⟩ := hr.inv; have N10 := Lib.hid (hr.any); clear hr; have HD10 := Lib.hid (show Below w9.heap.size w9 w10 from hb); have L10_0 := Lib.hid (L9_0.out.keep HD10.out); have L10_1 := Lib.hid (L9_1.out.keep HD10.out); have L10_2 := Lib.hid (L9_2.out.keep HD10.out); have L10_3 := Lib.hid (L9_3.out.keep HD10.out); have L10_4 := Lib.hid (L9_4.out.keep HD10.out); have L10_5 := Lib.hid (L9_5.out.keep HD10.out); have L10_6 := Lib.hid (L9_6.out.keep HD10.out); have V10_v := Lib.hid (V9_v.out.keep HD10.out); have V10_x := Lib.hid (V9_x.out.keep HD10.out); have V10_y := Lib.hid (V9_y.out.keep HD10.out); have V10_p := Lib.hid (V9_p.out.keep HD10.out); have V10_got := Lib.hid (V9_got.out.keep HD10.out); have V10_a := Lib.hid (V9_a.out.keep HD10.out); have V10_b := Lib.hid (V9_b.out.keep HD10.out); have V10_d := Lib.hid (V9_d.out.keep HD10.out); have V10_z := Lib.hid (V9_z.out.keep HD10.out); have HW10 := Lib.hid (Below.next HW9.out HD10.out); clear q_0; clear q_1; clear q_2; clear q_3; have q_0 := L10_0.out.cell; have q_1 := L10_1.out.cell; have q_2 := L10_2.out.cell; have q_3 := L10_3.out.cell; clear tok2)
            | (go_at_call 25; have _t := tok3; refine (C9.out _ _ _ (N10.out) (V10_x.out)).mono ?_; rintro e w11 ⟨v11, rfl, hr, hb⟩; obtain ⟨qa11, qc11, qm11, qn11, rfl, -⟩ := hr.inv; have N11 := Lib.hid (hr.any); clear hr; have HD11 := Lib.hid (show Below w10.heap.size w10 w11 from hb); have L11_0 := Lib.hid (L10_0.out.keep HD11.out); have L11_1 := Lib.hid (L10_1.out.keep HD11.out); have L11_2 := Lib.hid (L10_2.out.keep HD11.out); have L11_3 := Lib.hid (L10_3.out.keep HD11.out); have L11_4 := Lib.hid (L10_4.out.keep HD11.out); have L11_5 := Lib.hid (L10_5.out.keep HD11.out); have L11_6 := Lib.hid (L10_6.out.keep HD11.out); have V11_v := Lib.hid (V10_v.out.keep HD11.out); have V11_x := Lib.hid (V10_x.out.keep HD11.out); have V11_y := Lib.hid (V10_y.out.keep HD11.out); have V11_p := Lib.hid (V10_p.out.keep HD11.out); have V11_got := Lib.hid (V10_got.out.keep HD11.out); have V11_a := Lib.hid (V10_a.out.keep HD11.out); have V11_b := Lib.hid (V10_b.out.keep HD11.out); have V11_d := Lib.hid (V10_d.out.keep HD11.out); have V11_z := Lib.hid (V10_z.out.keep HD11.out); have V11_q := Lib.hid (N10.out.keep HD11.out); have HW11 := Lib.hid (Below.next HW10.out HD11.out); clear q_0; clear q_1; clear q_2; clear q_3; have q_0 := L11_0.out.cell; have q_1 := L11_1.out.cell; have q_2 := L11_2.out.cell; have q_3 := L11_3.out.cell; clear tok3)
            | (go_at_call 28; have _t := tok4; refine (C11.out _ _ _ (N11.out) (V11_p.out)).mono ?_; rintro e w12 ⟨rfl, hb⟩; have HD12 := Lib.hid (show Below w11.heap.size w11 w12 from hb); have L12_0 := Lib.hid (L11_0.out.keep HD12.out); have L12_1 := Lib.hid (L11_1.out.keep HD12.out); have L12_2 := Lib.hid (L11_2.out.keep HD12.out); have L12_3 := Lib.hid (L11_3.out.keep HD12.out); have L12_4 := Lib.hid (L11_4.out.keep HD12.out); have L12_5 := Lib.hid (L11_5.out.keep HD12.out); have L12_6 := Lib.hid (L11_6.out.keep HD12.out); have V12_v := Lib.hid (V11_v.out.keep HD12.out); have V12_x := Lib.hid (V11_x.out.keep HD12.out); have V12_y := Lib.hid (V11_y.out.keep HD12.out); have V12_p := Lib.hid (V11_p.out.keep HD12.out); have V12_got := Lib.hid (V11_got.out.keep HD12.out); have V12_a := Lib.hid (V11_a.out.keep HD12.out); have V12_b := Lib.hid (V11_b.out.keep HD12.out); have V12_d := Lib.hid (V11_d.out.keep HD12.out); have V12_z := Lib.hid (V11_z.out.keep HD12.out); have V12_q := Lib.hid (V11_q.out.keep HD12.out); have V12_r := Lib.hid (N11.out.keep HD12.out); have HW12 := Lib.hid (Below.next HW11.out HD12.out); clear q_0; clear q_1; clear q_2; clear q_3; have q_0 := L12_0.out.cell; have q_1 := L12_1.out.cell; have q_2 := L12_2.out.cell; have q_3 := L12_3.out.cell; clear tok4)
            | (go_at_call 25; have _t := tok5; refine (C10.out _ _ _ (V12_p.out) (V12_x.out)).mono ?_; rintro e w13 ⟨v13, rfl, hr, hb⟩; obtain ⟨qa13, qc13, qm13, qn13, rfl, -⟩ := hr.inv; have N13 := Lib.hid (hr.any); clear hr; have HD13 := Lib.hid (show Below w12.heap.size w12 w13 from hb); have L13_0 := Lib.hid (L12_0.out.keep HD13.out); have L13_1 := Lib.hid (L12_1.out.keep HD13.out); have L13_2 := Lib.hid (L12_2.out.keep HD13.out); have L13_3 := Lib.hid (L12_3.out.keep HD13.out); have L13_4 := Lib.hid (L12_4.out.keep HD13.out); have L13_5 := Lib.hid (L12_5.out.keep HD13.out); have L13_6 := Lib.hid (L12_6.out.keep HD13.out); have V13_v := Lib.hid (V12_v.out.keep HD13.out); have V13_x := Lib.hid (V12_x.out.keep HD13.out); have V13_y := Lib.hid (V12_y.out.keep HD13.out); have V13_p := Lib.hid (V12_p.out.keep HD13.out); have V13_got := Lib.hid (V12_got.out.keep HD13.out); have V13_a := Lib.hid (V12_a.out.keep HD13.out); have V13_b := Lib.hid (V12_b.out.keep HD13.out); have V13_d := Lib.hid (V12_d.out.keep HD13.out); have V13_z := Lib.hid (V12_z.out.keep HD13.out); have V13_q := Lib.hid (V12_q.out.keep HD13.out); have V13_r := Lib.hid (V12_r.out.keep HD13.out); have HW13 := Lib.hid (Below.next HW12.out HD13.out); clear q_0; clear q_1; clear q_2; clear q_3; have q_0 := L13_0.out.cell; have q_1 := L13_1.out.cell; have q_2 := L13_2.out.cell; have q_3 := L13_3.out.cell; clear tok5)
            | (go_at_call 28; refine (C11.out _ _ _ (N13.out) (V13_p.out)).mono ?_; rintro e w14 ⟨rfl, hb⟩; have HD14 := Lib.hid (show Below w13.heap.size w13 w14 from hb); have L14_0 := Lib.hid (L13_0.out.keep HD14.out); have L14_1 := Lib.hid (L13_1.out.keep HD14.out); have L14_2 := Lib.hid (L13_2.out.keep HD14.out); have L14_3 := Lib.hid (L13_3.out.keep HD14.out); have L14_4 := Lib.hid (L13_4.out.keep HD14.out); have L14_5 := Lib.hid (L13_5.out.keep HD14.out); have L14_6 := Lib.hid (L13_6.out.keep HD14.out); have V14_v := Lib.hid (V13_v.out.keep HD14.out); have V14_x := Lib.hid (V13_x.out.keep HD14.out); have V14_y := Lib.hid (V13_y.out.keep HD14.out); have V14_p := Lib.hid (V13_p.out.keep HD14.out); have V14_got := Lib.hid (V13_got.out.keep HD14.out); have V14_a := Lib.hid (V13_a.out.keep HD14.out); have V14_b := Lib.hid (V13_b.out.keep HD14.out); have V14_d := Lib.hid (V13_d.out.keep HD14.out); have V14_z := Lib.hid (V13_z.out.keep HD14.out); have V14_q := Lib.hid (V13_q.out.keep HD14.out); have V14_r := Lib.hid (V13_r.out.keep HD14.out); have V14_r2 := Lib.hid (N13.out.keep HD14.out); have HW14 := Lib.hid (Below.next HW13.out HD14.out); clear q_0; clear q_1; clear q_2; clear q_3; have q_0 := L14_0.out.cell; have q_1 := L14_1.out.cell; have q_2 := L14_2.out.cell; have q_3 := L14_3.out.cell))
    go_wp2_with fail
    go_ret
    exact ⟨rfl, HW14.out⟩
  · have hkt : (key.toList == other.toList) = false := by rw [keq_iff]; exact decide_eq_false hko
    have hij := HIS.out hko
    have C13 := Lib.hid (C12.out hko)
    clear hko
    subst hij
    go_wp2_with fail
    refine (C13.out _ _ _ (V8_a.out) (V8_b.out)).mono ?_
    rintro e w9 ⟨rfl, hb⟩
    have HD9 := Lib.hid (show Below w8.heap.size w8 w9 from hb)
    have L9_0 := Lib.hid (L8_0.out.keep HD9.out)
    have L9_1 := Lib.hid (L8_1.out.keep HD9.out)
    have L9_2 := Lib.hid (L8_2.out.keep HD9.out)
    have L9_3 := Lib.hid (L8_3.out.keep HD9.out)
    have L9_4 := Lib.hid (L8_4.out.keep HD9.out)
    have L9_5 := Lib.hid (L8_5.out.keep HD9.out)
    have L9_6 := Lib.hid (L8_6.out.keep HD9.out)
    have V9_v := Lib.hid (V8_v.out.keep HD9.out)
    have V9_x := Lib.hid (V8_x.out.keep HD9.out)
    have V9_y := Lib.hid (V8_y.out.keep HD9.out)
    have V9_p := Lib.hid (V8_p.out.keep HD9.out)
    have V9_got := Lib.hid (V8_got.out.keep HD9.out)
    have V9_a := Lib.hid (V8_a.out.keep HD9.out)
    have V9_b := Lib.hid (V8_b.out.keep HD9.out)
    have V9_d := Lib.hid (V8_d.out.keep HD9.out)
    have V9_z := Lib.hid (V8_z.out.keep HD9.out)
    have HW9 := Lib.hid (Below.next HW8.out HD9.out)
    clear k8_0 l8_0 k8_1 l8_1 k8_2 l8_2 k8_3 l8_3 k8_4 l8_4 k8_5 l8_5 k8_6 l8_6 hb HD9 L8_0 L8_1 L8_2 L8_3 L8_4 L8_5 L8_6 V8_v V8_x V8_y V8_p V8_got V8_a V8_b V8_d V8_z HW8
    have k9_0 := L9_0.out.cell
    have l9_0 := L9_0.out.lt
    have k9_1 := L9_1.out.cell
    have l9_1 := L9_1.out.lt
    have k9_2 := L9_2.out.cell
    have l9_2 := L9_2.out.lt
    have k9_3 := L9_3.out.cell
    have l9_3 := L9_3.out.lt
    have k9_4 := L9_4.out.cell
    have l9_4 := L9_4.out.lt
    have k9_5 := L9_5.out.cell
    have l9_5 := L9_5.out.lt
    have k9_6 := L9_6.out.cell
    have l9_6 := L9_6.out.lt
    go_wp2_with fail
    have tok1 : True := trivial
    have tok2 : True := trivial
    have tok3 : True := trivial
    have tok4 : True := trivial
    have tok5 : True := trivial
    have q_0 := L9_0.out.cell
    have q_1 := L9_1.out.cell
    have q_2 := L9_2.out.cell
    have q_3 := L9_3.out.cell
    clear k9_0 k9_1 k9_2 k9_3 k9_4 k9_5 k9_6
    go_region_held3 (fun w' => (∀ i, w'.cell? ⟨w.heap.size, i, none⟩ = (#[.int .i64 v.kind, .bool v.bool, .int .i64 v.int, .string v.str, .slice la v.list.length lc, .slice ma v.map.length mc] : Array Value)[i]?) ∧ (∀ i, w'.cell? ⟨w.heap.size + 1, i, none⟩ = (#[.int .i64 x.kind, .bool x.bool, .int .i64 x.int, .string x.str, .slice la2 x.list.length lc2, .slice ma2 x.map.length mc2] : Array Value)[i]?) ∧ (∀ i, w'.cell? ⟨w.heap.size + 1 + 1, i, none⟩ = (#[.int .i64 y.kind, .bool y.bool, .int .i64 y.int, .string y.str, .slice la3 y.list.length lc3, .slice ma3 y.map.length mc3] : Array Value)[i]?) ∧ (∀ i, w'.cell? ⟨w2.heap.size, i, none⟩ = (#[.int .i64 p.kind, .bool p.bool, .int .i64 p.int, .string p.str, .slice qa2 p.list.length qc2, .slice qm2 p.map.length qn2] : Array Value)[i]?)) (exact ⟨q_0, q_1, q_2, q_3⟩) (first
            | (go_at_call 24; have _t := tok1; refine (awake1 _).mono ?_; rintro e w10 ⟨rfl, hb⟩; have HD10 := Lib.hid (show Below w9.heap.size w9 w10 from Below.next ((Below.refl _ _).drew) hb); have L10_0 := Lib.hid (L9_0.out.keep HD10.out); have L10_1 := Lib.hid (L9_1.out.keep HD10.out); have L10_2 := Lib.hid (L9_2.out.keep HD10.out); have L10_3 := Lib.hid (L9_3.out.keep HD10.out); have L10_4 := Lib.hid (L9_4.out.keep HD10.out); have L10_5 := Lib.hid (L9_5.out.keep HD10.out); have L10_6 := Lib.hid (L9_6.out.keep HD10.out); have V10_v := Lib.hid (V9_v.out.keep HD10.out); have V10_x := Lib.hid (V9_x.out.keep HD10.out); have V10_y := Lib.hid (V9_y.out.keep HD10.out); have V10_p := Lib.hid (V9_p.out.keep HD10.out); have V10_got := Lib.hid (V9_got.out.keep HD10.out); have V10_a := Lib.hid (V9_a.out.keep HD10.out); have V10_b := Lib.hid (V9_b.out.keep HD10.out); have V10_d := Lib.hid (V9_d.out.keep HD10.out); have V10_z := Lib.hid (V9_z.out.keep HD10.out); have HW10 := Lib.hid (Below.next HW9.out HD10.out); clear q_0; clear q_1; clear q_2; clear q_3; have q_0 := L10_0.out.cell; have q_1 := L10_1.out.cell; have q_2 := L10_2.out.cell; have q_3 := L10_3.out.cell; clear tok1)
            | (go_at_call 25; have _t := tok2; refine (C8.out _ _ _ (V10_v.out) (V10_y.out)).mono ?_; rintro e w11 ⟨v11, rfl, hr, hb⟩; obtain ⟨qa11, qc11, qm11, qn11, rfl, -⟩ := hr.inv; have N11 := Lib.hid (hr.any); clear hr; have HD11 := Lib.hid (show Below w10.heap.size w10 w11 from hb); have L11_0 := Lib.hid (L10_0.out.keep HD11.out); have L11_1 := Lib.hid (L10_1.out.keep HD11.out); have L11_2 := Lib.hid (L10_2.out.keep HD11.out); have L11_3 := Lib.hid (L10_3.out.keep HD11.out); have L11_4 := Lib.hid (L10_4.out.keep HD11.out); have L11_5 := Lib.hid (L10_5.out.keep HD11.out); have L11_6 := Lib.hid (L10_6.out.keep HD11.out); have V11_v := Lib.hid (V10_v.out.keep HD11.out); have V11_x := Lib.hid (V10_x.out.keep HD11.out); have V11_y := Lib.hid (V10_y.out.keep HD11.out); have V11_p := Lib.hid (V10_p.out.keep HD11.out); have V11_got := Lib.hid (V10_got.out.keep HD11.out); have V11_a := Lib.hid (V10_a.out.keep HD11.out); have V11_b := Lib.hid (V10_b.out.keep HD11.out); have V11_d := Lib.hid (V10_d.out.keep HD11.out); have V11_z := Lib.hid (V10_z.out.keep HD11.out); have HW11 := Lib.hid (Below.next HW10.out HD11.out); clear q_0; clear q_1; clear q_2; clear q_3; have q_0 := L11_0.out.cell; have q_1 := L11_1.out.cell; have q_2 := L11_2.out.cell; have q_3 := L11_3.out.cell; clear tok2)
            | (go_at_call 25; have _t := tok3; refine (C9.out _ _ _ (N11.out) (V11_x.out)).mono ?_; rintro e w12 ⟨v12, rfl, hr, hb⟩; obtain ⟨qa12, qc12, qm12, qn12, rfl, -⟩ := hr.inv; have N12 := Lib.hid (hr.any); clear hr; have HD12 := Lib.hid (show Below w11.heap.size w11 w12 from hb); have L12_0 := Lib.hid (L11_0.out.keep HD12.out); have L12_1 := Lib.hid (L11_1.out.keep HD12.out); have L12_2 := Lib.hid (L11_2.out.keep HD12.out); have L12_3 := Lib.hid (L11_3.out.keep HD12.out); have L12_4 := Lib.hid (L11_4.out.keep HD12.out); have L12_5 := Lib.hid (L11_5.out.keep HD12.out); have L12_6 := Lib.hid (L11_6.out.keep HD12.out); have V12_v := Lib.hid (V11_v.out.keep HD12.out); have V12_x := Lib.hid (V11_x.out.keep HD12.out); have V12_y := Lib.hid (V11_y.out.keep HD12.out); have V12_p := Lib.hid (V11_p.out.keep HD12.out); have V12_got := Lib.hid (V11_got.out.keep HD12.out); have V12_a := Lib.hid (V11_a.out.keep HD12.out); have V12_b := Lib.hid (V11_b.out.keep HD12.out); have V12_d := Lib.hid (V11_d.out.keep HD12.out); have V12_z := Lib.hid (V11_z.out.keep HD12.out); have V12_q := Lib.hid (N11.out.keep HD12.out); have HW12 := Lib.hid (Below.next HW11.out HD12.out); clear q_0; clear q_1; clear q_2; clear q_3; have q_0 := L12_0.out.cell; have q_1 := L12_1.out.cell; have q_2 := L12_2.out.cell; have q_3 := L12_3.out.cell; clear tok3)
            | (go_at_call 28; have _t := tok4; refine (C11.out _ _ _ (N12.out) (V12_p.out)).mono ?_; rintro e w13 ⟨rfl, hb⟩; have HD13 := Lib.hid (show Below w12.heap.size w12 w13 from hb); have L13_0 := Lib.hid (L12_0.out.keep HD13.out); have L13_1 := Lib.hid (L12_1.out.keep HD13.out); have L13_2 := Lib.hid (L12_2.out.keep HD13.out); have L13_3 := Lib.hid (L12_3.out.keep HD13.out); have L13_4 := Lib.hid (L12_4.out.keep HD13.out); have L13_5 := Lib.hid (L12_5.out.keep HD13.out); have L13_6 := Lib.hid (L12_6.out.keep HD13.out); have V13_v := Lib.hid (V12_v.out.keep HD13.out); have V13_x := Lib.hid (V12_x.out.keep HD13.out); have V13_y := Lib.hid (V12_y.out.keep HD13.out); have V13_p := Lib.hid (V12_p.out.keep HD13.out); have V13_got := Lib.hid (V12_got.out.keep HD13.out); have V13_a := Lib.hid (V12_a.out.keep HD13.out); have V13_b := Lib.hid (V12_b.out.keep HD13.out); have V13_d := Lib.hid (V12_d.out.keep HD13.out); have V13_z := Lib.hid (V12_z.out.keep HD13.out); have V13_q := Lib.hid (V12_q.out.keep HD13.out); have V13_r := Lib.hid (N12.out.keep HD13.out); have HW13 := Lib.hid (Below.next HW12.out HD13.out); clear q_0; clear q_1; clear q_2; clear q_3; have q_0 := L13_0.out.cell; have q_1 := L13_1.out.cell; have q_2 := L13_2.out.cell; have q_3 := L13_3.out.cell; clear tok4)
            | (go_at_call 25; have _t := tok5; refine (C10.out _ _ _ (V13_p.out) (V13_x.out)).mono ?_; rintro e w14 ⟨v14, rfl, hr, hb⟩; obtain ⟨qa14, qc14, qm14, qn14, rfl, -⟩ := hr.inv; have N14 := Lib.hid (hr.any); clear hr; have HD14 := Lib.hid (show Below w13.heap.size w13 w14 from hb); have L14_0 := Lib.hid (L13_0.out.keep HD14.out); have L14_1 := Lib.hid (L13_1.out.keep HD14.out); have L14_2 := Lib.hid (L13_2.out.keep HD14.out); have L14_3 := Lib.hid (L13_3.out.keep HD14.out); have L14_4 := Lib.hid (L13_4.out.keep HD14.out); have L14_5 := Lib.hid (L13_5.out.keep HD14.out); have L14_6 := Lib.hid (L13_6.out.keep HD14.out); have V14_v := Lib.hid (V13_v.out.keep HD14.out); have V14_x := Lib.hid (V13_x.out.keep HD14.out); have V14_y := Lib.hid (V13_y.out.keep HD14.out); have V14_p := Lib.hid (V13_p.out.keep HD14.out); have V14_got := Lib.hid (V13_got.out.keep HD14.out); have V14_a := Lib.hid (V13_a.out.keep HD14.out); have V14_b := Lib.hid (V13_b.out.keep HD14.out); have V14_d := Lib.hid (V13_d.out.keep HD14.out); have V14_z := Lib.hid (V13_z.out.keep HD14.out); have V14_q := Lib.hid (V13_q.out.keep HD14.out); have V14_r := Lib.hid (V13_r.out.keep HD14.out); have HW14 := Lib.hid (Below.next HW13.out HD14.out); clear q_0; clear q_1; clear q_2; clear q_3; have q_0 := L14_0.out.cell; have q_1 := L14_1.out.cell; have q_2 := L14_2.out.cell; have q_3 := L14_3.out.cell; clear tok5)
            | (go_at_call 28; refine (C11.out _ _ _ (N14.out) (V14_p.out)).mono ?_; rintro e w15 ⟨rfl, hb⟩; have HD15 := Lib.hid (show Below w14.heap.size w14 w15 from hb); have L15_0 := Lib.hid (L14_0.out.keep HD15.out); have L15_1 := Lib.hid (L14_1.out.keep HD15.out); have L15_2 := Lib.hid (L14_2.out.keep HD15.out); have L15_3 := Lib.hid (L14_3.out.keep HD15.out); have L15_4 := Lib.hid (L14_4.out.keep HD15.out); have L15_5 := Lib.hid (L14_5.out.keep HD15.out); have L15_6 := Lib.hid (L14_6.out.keep HD15.out); have V15_v := Lib.hid (V14_v.out.keep HD15.out); have V15_x := Lib.hid (V14_x.out.keep HD15.out); have V15_y := Lib.hid (V14_y.out.keep HD15.out); have V15_p := Lib.hid (V14_p.out.keep HD15.out); have V15_got := Lib.hid (V14_got.out.keep HD15.out); have V15_a := Lib.hid (V14_a.out.keep HD15.out); have V15_b := Lib.hid (V14_b.out.keep HD15.out); have V15_d := Lib.hid (V14_d.out.keep HD15.out); have V15_z := Lib.hid (V14_z.out.keep HD15.out); have V15_q := Lib.hid (V14_q.out.keep HD15.out); have V15_r := Lib.hid (V14_r.out.keep HD15.out); have V15_r2 := Lib.hid (N14.out.keep HD15.out); have HW15 := Lib.hid (Below.next HW14.out HD15.out); clear q_0; clear q_1; clear q_2; clear q_3; have q_0 := L15_0.out.cell; have q_1 := L15_1.out.cell; have q_2 := L15_2.out.cell; have q_3 := L15_3.out.cell))
    go_wp2_with fail
    go_ret
    exact ⟨rfl, HW15.out⟩

end Go.Proofs.Ytmdihildjblgnaa
