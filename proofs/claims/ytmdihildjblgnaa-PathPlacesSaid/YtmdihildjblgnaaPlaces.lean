/- PathPlaces answers true for every input. -/
import Derived.Test.YtmdihildjblgnaaAwakeP
import Derived.Deep.RegionHeld3
import Derived.Deep.DrawnRows
namespace Go.Proofs.Ytmdihildjblgnaa
open Go.RowKit
attribute [local go_sem ↓] Go.wp_at_zero Go.wp_at_succ

set_option maxRecDepth 100000 in
set_option maxHeartbeats 4000000 in
theorem places (v x : T) (l : List ByteArray) (a : Option Addr) (c : Nat) (vv vx : Value) (w : World) (hv : RepT w (fun _ => True) vv v) (hx : RepT w (fun _ => True) vx x) (hl : RepS w (fun _ => True) a l) (hl1 : l.length ≤ c) (hl2 : c ≤ maxLen) (hl3 : l.length * 16 ≤ 140737488355328) :
    Calls Try.prog 9 #[vv, vx, .slice a l.length c] w fun e w' => e = .returned (.bool true) ∧ Below w.heap.size w w' := by
  obtain ⟨la, lc, ma, mc, rfl, -⟩ := hv.inv
  obtain ⟨la2, lc2, ma2, mc2, rfl, -⟩ := hx.inv
  have H_v := Lib.hid hv
  have H_x := Lib.hid hx
  clear hv hx
  have HL0 := Lib.hid hl
  clear hl
  go_enter Try.func9, Try.ntmps9
  go_wp2_with fail
  refine (right [v, x] _ (fun _ => True) _ 2 (repE_L.1 (rep_block (E := eltV) (S := fun _ => True) (l := [v, x]) [[.int .i64 v.kind, .bool v.bool, .int .i64 v.int, .string v.str, .slice la v.list.length lc, .slice ma v.map.length mc], [.int .i64 x.kind, .bool x.bool, .int .i64 x.int, .string x.str, .slice la2 x.list.length lc2, .slice ma2 x.map.length mc2]] (Blk.new_at ((w.alloc (.cells #[.int .i64 v.kind, .bool v.bool, .int .i64 v.int, .string v.str, .slice la v.list.length lc, .slice ma v.map.length mc] 25)).alloc (.cells #[.int .i64 x.kind, .bool x.bool, .int .i64 x.int, .string x.str, .slice la2 x.list.length lc2, .slice ma2 x.map.length mc2] 25)) 25 #[.int .i64 v.kind, .bool v.bool, .int .i64 v.int, .string v.str, .slice la v.list.length lc, .slice ma v.map.length mc, .int .i64 x.kind, .bool x.bool, .int .i64 x.int, .string x.str, .slice la2 x.list.length lc2, .slice ma2 x.map.length mc2] (n := w.heap.size + 1 + 1) (by simp)) rfl trivial ⟨(H_v.out.keep (by exact ((Below.new _ _).alloc (by simp) _).alloc (by simp; omega) _)), (H_x.out.keep (by exact ((Below.new _ _).alloc (by simp) _).alloc (by simp; omega) _)), trivial⟩)) (by simp)).mono ?_
  rintro e w1 ⟨r, rfl, hr, hb⟩
  have HD1 := Lib.hid (show Below w.heap.size w w1 from Below.next (((Below.new _ _).alloc (by simp) _).alloc (by simp; omega) _) hb)
  have L1_0 := Lib.hid ((((Blk.new w 25 #[.int .i64 v.kind, .bool v.bool, .int .i64 v.int, .string v.str, .slice la v.list.length lc, .slice ma v.map.length mc]).alloc (.cells #[.int .i64 x.kind, .bool x.bool, .int .i64 x.int, .string x.str, .slice la2 x.list.length lc2, .slice ma2 x.map.length mc2] 25)).alloc (.cells #[.int .i64 v.kind, .bool v.bool, .int .i64 v.int, .string v.str, .slice la v.list.length lc, .slice ma v.map.length mc, .int .i64 x.kind, .bool x.bool, .int .i64 x.int, .string x.str, .slice la2 x.list.length lc2, .slice ma2 x.map.length mc2] 25)).keep hb)
  have L1_1 := Lib.hid (((Blk.new_at (w.alloc (.cells #[.int .i64 v.kind, .bool v.bool, .int .i64 v.int, .string v.str, .slice la v.list.length lc, .slice ma v.map.length mc] 25)) 25 #[.int .i64 x.kind, .bool x.bool, .int .i64 x.int, .string x.str, .slice la2 x.list.length lc2, .slice ma2 x.map.length mc2] (n := w.heap.size + 1) (by simp)).alloc (.cells #[.int .i64 v.kind, .bool v.bool, .int .i64 v.int, .string v.str, .slice la v.list.length lc, .slice ma v.map.length mc, .int .i64 x.kind, .bool x.bool, .int .i64 x.int, .string x.str, .slice la2 x.list.length lc2, .slice ma2 x.map.length mc2] 25)).keep hb)
  have V1_v := Lib.hid (H_v.out.keep HD1.out)
  have V1_x := Lib.hid (H_x.out.keep HD1.out)
  have HW1 := Lib.hid (show Below w.heap.size w w1 from HD1.out)
  clear hb HD1 H_v H_x
  have k1_0 := L1_0.out.cell
  have l1_0 := L1_0.out.lt
  have k1_1 := L1_1.out.cell
  have l1_1 := L1_1.out.lt
  have HL := Lib.hid (HL0.out.keep HW1.out)
  clear HL0
  have HR := Lib.hid hr
  clear hr
  cases r
  · go_wp2_with (go_at_call 44; refine (awake2 _).mono ?_; rintro e w9 ⟨rfl, hb9⟩)
    go_ret
    exact ⟨rfl, Below.next HW1.out hb9⟩
  have hgv : Good v := HR.out rfl v (by simp)
  have hgx : Good x := HR.out rfl x (by simp)
  go_wp2_with fail
  refine (tsteps l a c _ HL.out (by omega)).mono ?_
  rintro e w2 ⟨r, rfl, hs, rfl⟩
  have HST := Lib.hid hs
  clear hs
  cases r
  · clear hgv hgx
    go_wp2_with (go_at_call 44; refine (awake2 _).mono ?_; rintro e w9 ⟨rfl, hb9⟩)
    go_ret
    exact ⟨rfl, Below.next HW1.out hb9⟩
  obtain ⟨hkeys, hlen⟩ := HST.out rfl
  clear HST HR
  obtain ⟨p, hp⟩ : ∃ p, p = putP l x v := ⟨_, rfl⟩
  obtain ⟨d, hd⟩ : ∃ p, p = dropP l v := ⟨_, rfl⟩
  obtain ⟨u, hu⟩ : ∃ p, p = pruneP l v := ⟨_, rfl⟩
  obtain ⟨bo, hbo⟩ : ∃ p, p = (getP l v).isSome := ⟨_, rfl⟩
  obtain ⟨y, hy⟩ : ∃ p, p = (getP l v).getD T.zero := ⟨_, rfl⟩
  have C1 := Lib.hid (fun (w : World) (c0 : Value) (h0 : RepT w (fun _ => True) c0 v) (h2 : RepS w (fun _ => True) a l) => (by have := hbo ▸ hy ▸ tpget l v hgv.neat a c c0 w _ h0 h2 (by omega); exact this : Calls Try.prog 45 #[c0, .slice a l.length c] w (GotB w bo y)))
  have C2 := Lib.hid (fun (w : World) (c0 : Value) (h0 : RepT w (fun _ => True) c0 v) (h2 : RepS w (fun _ => True) a l) => (by have := hbo ▸ hy ▸ rpget l v hgv.neat a c c0 w _ h0 h2 (by omega); exact this : Calls Try.prog 46 #[c0, .slice a l.length c] w (GotRS (fun _ => True) w bo y)))
  have C3 := Lib.hid (fun (w : World) (c0 d0 : Value) (h0 : RepT w (fun _ => True) c0 v) (h1 : RepT w (fun _ => True) d0 x) (h2 : RepS w (fun _ => True) a l) => (by have := hp ▸ tpput (n := 6000) (m := 6001) (by omega) (by omega) l v x hgv.neat (hgx.neat.mono (by omega)) hkeys a c c0 d0 w _ _ h0 h1 h2 hl1 hl2; exact this : Calls Try.prog 47 #[c0, d0, .slice a l.length c] w (NewPost w p)))
  have C4 := Lib.hid (fun (w : World) (c0 d0 : Value) (h0 : RepT w (fun _ => True) c0 v) (h1 : RepT w (fun _ => True) d0 x) (h2 : RepS w (fun _ => True) a l) => (by have := hp ▸ rpput (n := 6000) (m := 6001) (by omega) (by omega) l v x hgv.neat (hgx.neat.mono (by omega)) hkeys a c c0 d0 w _ h0 h1 h2 hl1 hl2; exact this : Calls Try.prog 48 #[c0, d0, .slice a l.length c] w (ValPostS (fun _ => True) w p)))
  have C5 := Lib.hid (fun (w : World) (c0 : Value) (h0 : RepT w (fun _ => True) c0 v) (h2 : RepS w (fun _ => True) a l) => (by have := hd ▸ tpdrop (n := 6000) (by omega) l v hgv.neat a c c0 w _ h0 h2 hl1 hl2; exact this : Calls Try.prog 49 #[c0, .slice a l.length c] w (NewPost w d)))
  have C6 := Lib.hid (fun (w : World) (c0 : Value) (h0 : RepT w (fun _ => True) c0 v) (h2 : RepS w (fun _ => True) a l) => (by have := hd ▸ rpdrop (n := 6000) (by omega) l v hgv.neat a c c0 w _ h0 h2 hl1 hl2; exact this : Calls Try.prog 50 #[c0, .slice a l.length c] w (ValPostS (fun _ => True) w d)))
  have C7 := Lib.hid (fun (w : World) (c0 : Value) (h0 : RepT w (fun _ => True) c0 v) (h2 : RepS w (fun _ => True) a l) => (by have := (hu.trans (prune_one hgv.neat).symm) ▸ tpprune (n := 6000) (by omega) l v hgv.neat a c c0 w _ h0 h2 (by omega) hl1 hl2; exact this : Calls Try.prog 51 #[c0, .slice a l.length c] w (NewPost w u)))
  have C8 := Lib.hid (fun (w : World) (c0 : Value) (h0 : RepT w (fun _ => True) c0 v) (h2 : RepS w (fun _ => True) a l) => (by have := hu ▸ rpprune (n := 6000) (by omega) l (by omega) v hgv.neat a c c0 w _ h0 h2 hl1 hl2; exact this : Calls Try.prog 52 #[c0, .slice a l.length c] w (ValPostS (fun _ => True) w u)))
  have CS : Hid (∀ (t : T) (w : World) (a b : Value), RepT w (fun _ => True) a t → RepT w (fun _ => True) b t → Calls Try.prog 28 #[a, b] w (fun e w' => e = .returned (.bool true) ∧ Below w.heap.size w w')) := fun t w a b h0 h1 => rsame_true rfl w _ _ a b h0 h1
  clear hp hd hu hbo hy hkeys hgv hgx
  go_wp2_with fail
  refine (C1.out _ _ (V1_v.out) (HL.out)).mono ?_
  rintro e w2 ⟨v2, rfl, hr, hb⟩
  obtain ⟨qa2, qc2, qm2, qn2, rfl, -⟩ := hr.inv
  have N2 := Lib.hid (hr.any)
  clear hr
  have HD2 := Lib.hid (show Below w1.heap.size w1 w2 from hb)
  have L2_0 := Lib.hid (L1_0.out.keep HD2.out)
  have L2_1 := Lib.hid (L1_1.out.keep HD2.out)
  have V2_v := Lib.hid (V1_v.out.keep HD2.out)
  have V2_x := Lib.hid (V1_x.out.keep HD2.out)
  have V2_L := Lib.hid (HL.out.keep HD2.out)
  have HW2 := Lib.hid (Below.next HW1.out HD2.out)
  clear k1_0 l1_0 k1_1 l1_1 hb HD2 L1_0 L1_1 V1_v V1_x HL HW1
  have k2_0 := L2_0.out.cell
  have l2_0 := L2_0.out.lt
  have k2_1 := L2_1.out.cell
  have l2_1 := L2_1.out.lt
  go_wp2_with fail
  refine (C2.out _ _ (V2_v.out.keep (by exact Below.new _ _)) (V2_L.out.keep (by exact Below.new _ _))).mono ?_
  rintro e w3 ⟨v3, rfl, hr, hb⟩
  obtain ⟨qa3, qc3, qm3, qn3, rfl, -⟩ := hr.inv
  have N3 := Lib.hid (hr.any)
  clear hr
  have HD3 := Lib.hid (show Below w2.heap.size w2 w3 from Below.next (Below.new _ _) hb)
  have L3_0 := Lib.hid (L2_0.out.keep HD3.out)
  have L3_1 := Lib.hid (L2_1.out.keep HD3.out)
  have L3_2 := Lib.hid ((Blk.new w2 25 #[.int .i64 y.kind, .bool y.bool, .int .i64 y.int, .string y.str, .slice qa2 y.list.length qc2, .slice qm2 y.map.length qn2]).keep hb)
  have V3_v := Lib.hid (V2_v.out.keep HD3.out)
  have V3_x := Lib.hid (V2_x.out.keep HD3.out)
  have V3_L := Lib.hid (V2_L.out.keep HD3.out)
  have V3_y1 := Lib.hid (N2.out.keep HD3.out)
  have HW3 := Lib.hid (Below.next HW2.out HD3.out)
  clear k2_0 l2_0 k2_1 l2_1 hb HD3 L2_0 L2_1 V2_v V2_x V2_L N2 HW2
  have k3_0 := L3_0.out.cell
  have l3_0 := L3_0.out.lt
  have k3_1 := L3_1.out.cell
  have l3_1 := L3_1.out.lt
  have k3_2 := L3_2.out.cell
  have l3_2 := L3_2.out.lt
  go_wp2_with fail
  obtain ⟨w4, hwz⟩ : ∃ x, x = (w3.alloc (.cells #[.int .i64 y.kind, .bool y.bool, .int .i64 y.int, .string y.str, .slice qa3 y.list.length qc3, .slice qm3 y.map.length qn3] 25)) := ⟨_, rfl⟩
  have hb : Below (w3.alloc (.cells #[.int .i64 y.kind, .bool y.bool, .int .i64 y.int, .string y.str, .slice qa3 y.list.length qc3, .slice qm3 y.map.length qn3] 25)).heap.size (w3.alloc (.cells #[.int .i64 y.kind, .bool y.bool, .int .i64 y.int, .string y.str, .slice qa3 y.list.length qc3, .slice qm3 y.map.length qn3] 25)) w4 := by rw [hwz]; exact Below.refl _ _
  rw [← hwz]
  clear hwz
  have HD4 := Lib.hid (show Below w3.heap.size w3 w4 from Below.next (Below.new _ _) hb)
  have L4_0 := Lib.hid (L3_0.out.keep HD4.out)
  have L4_1 := Lib.hid (L3_1.out.keep HD4.out)
  have L4_2 := Lib.hid (L3_2.out.keep HD4.out)
  have L4_3 := Lib.hid ((Blk.new w3 25 #[.int .i64 y.kind, .bool y.bool, .int .i64 y.int, .string y.str, .slice qa3 y.list.length qc3, .slice qm3 y.map.length qn3]).keep hb)
  have V4_v := Lib.hid (V3_v.out.keep HD4.out)
  have V4_x := Lib.hid (V3_x.out.keep HD4.out)
  have V4_L := Lib.hid (V3_L.out.keep HD4.out)
  have V4_y1 := Lib.hid (V3_y1.out.keep HD4.out)
  have V4_y2 := Lib.hid (N3.out.keep HD4.out)
  have HW4 := Lib.hid (Below.next HW3.out HD4.out)
  clear k3_0 l3_0 k3_1 l3_1 k3_2 l3_2 hb HD4 L3_0 L3_1 L3_2 V3_v V3_x V3_L V3_y1 N3 HW3
  have k4_0 := L4_0.out.cell
  have l4_0 := L4_0.out.lt
  have k4_1 := L4_1.out.cell
  have l4_1 := L4_1.out.lt
  have k4_2 := L4_2.out.cell
  have l4_2 := L4_2.out.lt
  have k4_3 := L4_3.out.cell
  have l4_3 := L4_3.out.lt
  go_wp2_with fail
  have HV := V4_v; have HX := V4_x; have HLL := V4_L; have HY1 := V4_y1; have HY2 := V4_y2; have HWc := HW4
  clear k4_0 k4_1 k4_2 k4_3
  have LB0 := L4_0
  have LB1 := L4_1
  have LB2 := L4_2
  have LB3 := L4_3
  have q_0 := LB0.out.cell; have q_1 := LB1.out.cell; have q_2 := LB2.out.cell; have q_3 := LB3.out.cell
  clear V4_v V4_x V4_L V4_y1 V4_y2 HW4 L4_0 L4_1 L4_2 L4_3
  go_region_held3 (fun w' => (∀ i, w'.cell? ⟨w.heap.size, i, none⟩ = (#[.int .i64 v.kind, .bool v.bool, .int .i64 v.int, .string v.str, .slice la v.list.length lc, .slice ma v.map.length mc] : Array Value)[i]?) ∧ (∀ i, w'.cell? ⟨w.heap.size + 1, i, none⟩ = (#[.int .i64 x.kind, .bool x.bool, .int .i64 x.int, .string x.str, .slice la2 x.list.length lc2, .slice ma2 x.map.length mc2] : Array Value)[i]?) ∧ (∀ i, w'.cell? ⟨w2.heap.size, i, none⟩ = (#[.int .i64 y.kind, .bool y.bool, .int .i64 y.int, .string y.str, .slice qa2 y.list.length qc2, .slice qm2 y.map.length qn2] : Array Value)[i]?) ∧ (∀ i, w'.cell? ⟨w3.heap.size, i, none⟩ = (#[.int .i64 y.kind, .bool y.bool, .int .i64 y.int, .string y.str, .slice qa3 y.list.length qc3, .slice qm3 y.map.length qn3] : Array Value)[i]?)) (first | (with_reducible exact ⟨q_0, q_1, q_2, q_3⟩) | (refine ⟨fun i => ?_, fun i => ?_, fun i => ?_, fun i => ?_⟩ <;> (simp only [cell_drew]; first | (with_reducible exact q_0 i) | (with_reducible exact q_1 i) | (with_reducible exact q_2 i) | (with_reducible exact q_3 i)))) (first
      | (go_at_call 44; refine at_world HWc (by first | (with_reducible exact Below.refl _ _) | (with_reducible exact (Below.refl _ _).drew) | (with_reducible exact Below.new _ _) | (with_reducible exact (Below.new _ _).drew) | (with_reducible exact (Below.new _ _).alloc (by simp) _) | (with_reducible exact ((Below.new _ _).alloc (by simp) _).drew)) (fun HBW => ?_); ((with_reducible refine (awake2 _).mono ?_); rintro e wn1 ⟨rfl, hb⟩; have HBN := Below.next HBW hb; replace HV := Lib.hid (HV.out.keep (HBN)); replace HX := Lib.hid (HX.out.keep (HBN)); replace HLL := Lib.hid (HLL.out.keep (HBN)); replace HY1 := Lib.hid (HY1.out.keep (HBN)); replace HY2 := Lib.hid (HY2.out.keep (HBN)); (try replace NP1 := Lib.hid (NP1.out.keep (HBN))); (try replace NP2 := Lib.hid (NP2.out.keep (HBN))); (try replace ND1 := Lib.hid (ND1.out.keep (HBN))); (try replace ND2 := Lib.hid (ND2.out.keep (HBN))); (try replace NU1 := Lib.hid (NU1.out.keep (HBN))); (try replace NU2 := Lib.hid (NU2.out.keep (HBN))); replace LB0 := Lib.hid (LB0.out.keep (HBN)); replace LB1 := Lib.hid (LB1.out.keep (HBN)); replace LB2 := Lib.hid (LB2.out.keep (HBN)); replace LB3 := Lib.hid (LB3.out.keep (HBN)); replace HWc := Lib.hid (Below.next HWc.out (HBN)); clear q_0; have q_0 := LB0.out.cell; clear q_1; have q_1 := LB1.out.cell; clear q_2; have q_2 := LB2.out.cell; clear q_3; have q_3 := LB3.out.cell; clear hb HBW HBN))
      | (go_at_call 47; refine at_world HWc (by first | (with_reducible exact Below.refl _ _) | (with_reducible exact (Below.refl _ _).drew) | (with_reducible exact Below.new _ _) | (with_reducible exact (Below.new _ _).drew) | (with_reducible exact (Below.new _ _).alloc (by simp) _) | (with_reducible exact ((Below.new _ _).alloc (by simp) _).drew)) (fun HBW => ?_); ((with_reducible refine (C3.out _ _ _ (HV.out.keep HBW) (HX.out.keep HBW) (HLL.out.keep HBW)).mono ?_); rintro e wn2 ⟨v2, rfl, hr, hb⟩; obtain ⟨qa2, qc2, qm2, qn2, rfl, -⟩ := hr.inv; have HBN := Below.next HBW hb; replace HV := Lib.hid (HV.out.keep (HBN)); replace HX := Lib.hid (HX.out.keep (HBN)); replace HLL := Lib.hid (HLL.out.keep (HBN)); replace HY1 := Lib.hid (HY1.out.keep (HBN)); replace HY2 := Lib.hid (HY2.out.keep (HBN)); (try replace NP1 := Lib.hid (NP1.out.keep (HBN))); (try replace NP2 := Lib.hid (NP2.out.keep (HBN))); (try replace ND1 := Lib.hid (ND1.out.keep (HBN))); (try replace ND2 := Lib.hid (ND2.out.keep (HBN))); (try replace NU1 := Lib.hid (NU1.out.keep (HBN))); (try replace NU2 := Lib.hid (NU2.out.keep (HBN))); replace LB0 := Lib.hid (LB0.out.keep (HBN)); replace LB1 := Lib.hid (LB1.out.keep (HBN)); replace LB2 := Lib.hid (LB2.out.keep (HBN)); replace LB3 := Lib.hid (LB3.out.keep (HBN)); replace HWc := Lib.hid (Below.next HWc.out (HBN)); clear q_0; have q_0 := LB0.out.cell; clear q_1; have q_1 := LB1.out.cell; clear q_2; have q_2 := LB2.out.cell; clear q_3; have q_3 := LB3.out.cell; have NP1 := Lib.hid hr.any; clear hr hb HBW HBN))
      | (go_at_call 48; refine at_world HWc (by first | (with_reducible exact Below.refl _ _) | (with_reducible exact (Below.refl _ _).drew) | (with_reducible exact Below.new _ _) | (with_reducible exact (Below.new _ _).drew) | (with_reducible exact (Below.new _ _).alloc (by simp) _) | (with_reducible exact ((Below.new _ _).alloc (by simp) _).drew)) (fun HBW => ?_); ((with_reducible refine (C4.out _ _ _ (HV.out.keep HBW) (HX.out.keep HBW) (HLL.out.keep HBW)).mono ?_); rintro e wn3 ⟨v3, rfl, hr, hb⟩; obtain ⟨qa3, qc3, qm3, qn3, rfl, -⟩ := hr.inv; have HBN := Below.next HBW hb; replace HV := Lib.hid (HV.out.keep (HBN)); replace HX := Lib.hid (HX.out.keep (HBN)); replace HLL := Lib.hid (HLL.out.keep (HBN)); replace HY1 := Lib.hid (HY1.out.keep (HBN)); replace HY2 := Lib.hid (HY2.out.keep (HBN)); (try replace NP1 := Lib.hid (NP1.out.keep (HBN))); (try replace NP2 := Lib.hid (NP2.out.keep (HBN))); (try replace ND1 := Lib.hid (ND1.out.keep (HBN))); (try replace ND2 := Lib.hid (ND2.out.keep (HBN))); (try replace NU1 := Lib.hid (NU1.out.keep (HBN))); (try replace NU2 := Lib.hid (NU2.out.keep (HBN))); replace LB0 := Lib.hid (LB0.out.keep (HBN)); replace LB1 := Lib.hid (LB1.out.keep (HBN)); replace LB2 := Lib.hid (LB2.out.keep (HBN)); replace LB3 := Lib.hid (LB3.out.keep (HBN)); replace HWc := Lib.hid (Below.next HWc.out (HBN)); clear q_0; have q_0 := LB0.out.cell; clear q_1; have q_1 := LB1.out.cell; clear q_2; have q_2 := LB2.out.cell; clear q_3; have q_3 := LB3.out.cell; have NP2 := Lib.hid hr.any; clear hr hb HBW HBN))
      | (go_at_call 49; refine at_world HWc (by first | (with_reducible exact Below.refl _ _) | (with_reducible exact (Below.refl _ _).drew) | (with_reducible exact Below.new _ _) | (with_reducible exact (Below.new _ _).drew) | (with_reducible exact (Below.new _ _).alloc (by simp) _) | (with_reducible exact ((Below.new _ _).alloc (by simp) _).drew)) (fun HBW => ?_); ((with_reducible refine (C5.out _ _ (HV.out.keep HBW) (HLL.out.keep HBW)).mono ?_); rintro e wn4 ⟨v4, rfl, hr, hb⟩; obtain ⟨qa4, qc4, qm4, qn4, rfl, -⟩ := hr.inv; have HBN := Below.next HBW hb; replace HV := Lib.hid (HV.out.keep (HBN)); replace HX := Lib.hid (HX.out.keep (HBN)); replace HLL := Lib.hid (HLL.out.keep (HBN)); replace HY1 := Lib.hid (HY1.out.keep (HBN)); replace HY2 := Lib.hid (HY2.out.keep (HBN)); (try replace NP1 := Lib.hid (NP1.out.keep (HBN))); (try replace NP2 := Lib.hid (NP2.out.keep (HBN))); (try replace ND1 := Lib.hid (ND1.out.keep (HBN))); (try replace ND2 := Lib.hid (ND2.out.keep (HBN))); (try replace NU1 := Lib.hid (NU1.out.keep (HBN))); (try replace NU2 := Lib.hid (NU2.out.keep (HBN))); replace LB0 := Lib.hid (LB0.out.keep (HBN)); replace LB1 := Lib.hid (LB1.out.keep (HBN)); replace LB2 := Lib.hid (LB2.out.keep (HBN)); replace LB3 := Lib.hid (LB3.out.keep (HBN)); replace HWc := Lib.hid (Below.next HWc.out (HBN)); clear q_0; have q_0 := LB0.out.cell; clear q_1; have q_1 := LB1.out.cell; clear q_2; have q_2 := LB2.out.cell; clear q_3; have q_3 := LB3.out.cell; have ND1 := Lib.hid hr.any; clear hr hb HBW HBN))
      | (go_at_call 50; refine at_world HWc (by first | (with_reducible exact Below.refl _ _) | (with_reducible exact (Below.refl _ _).drew) | (with_reducible exact Below.new _ _) | (with_reducible exact (Below.new _ _).drew) | (with_reducible exact (Below.new _ _).alloc (by simp) _) | (with_reducible exact ((Below.new _ _).alloc (by simp) _).drew)) (fun HBW => ?_); ((with_reducible refine (C6.out _ _ (HV.out.keep HBW) (HLL.out.keep HBW)).mono ?_); rintro e wn5 ⟨v5, rfl, hr, hb⟩; obtain ⟨qa5, qc5, qm5, qn5, rfl, -⟩ := hr.inv; have HBN := Below.next HBW hb; replace HV := Lib.hid (HV.out.keep (HBN)); replace HX := Lib.hid (HX.out.keep (HBN)); replace HLL := Lib.hid (HLL.out.keep (HBN)); replace HY1 := Lib.hid (HY1.out.keep (HBN)); replace HY2 := Lib.hid (HY2.out.keep (HBN)); (try replace NP1 := Lib.hid (NP1.out.keep (HBN))); (try replace NP2 := Lib.hid (NP2.out.keep (HBN))); (try replace ND1 := Lib.hid (ND1.out.keep (HBN))); (try replace ND2 := Lib.hid (ND2.out.keep (HBN))); (try replace NU1 := Lib.hid (NU1.out.keep (HBN))); (try replace NU2 := Lib.hid (NU2.out.keep (HBN))); replace LB0 := Lib.hid (LB0.out.keep (HBN)); replace LB1 := Lib.hid (LB1.out.keep (HBN)); replace LB2 := Lib.hid (LB2.out.keep (HBN)); replace LB3 := Lib.hid (LB3.out.keep (HBN)); replace HWc := Lib.hid (Below.next HWc.out (HBN)); clear q_0; have q_0 := LB0.out.cell; clear q_1; have q_1 := LB1.out.cell; clear q_2; have q_2 := LB2.out.cell; clear q_3; have q_3 := LB3.out.cell; have ND2 := Lib.hid hr.any; clear hr hb HBW HBN))
      | (go_at_call 51; refine at_world HWc (by first | (with_reducible exact Below.refl _ _) | (with_reducible exact (Below.refl _ _).drew) | (with_reducible exact Below.new _ _) | (with_reducible exact (Below.new _ _).drew) | (with_reducible exact (Below.new _ _).alloc (by simp) _) | (with_reducible exact ((Below.new _ _).alloc (by simp) _).drew)) (fun HBW => ?_); ((with_reducible refine (C7.out _ _ (HV.out.keep HBW) (HLL.out.keep HBW)).mono ?_); rintro e wn6 ⟨v6, rfl, hr, hb⟩; obtain ⟨qa6, qc6, qm6, qn6, rfl, -⟩ := hr.inv; have HBN := Below.next HBW hb; replace HV := Lib.hid (HV.out.keep (HBN)); replace HX := Lib.hid (HX.out.keep (HBN)); replace HLL := Lib.hid (HLL.out.keep (HBN)); replace HY1 := Lib.hid (HY1.out.keep (HBN)); replace HY2 := Lib.hid (HY2.out.keep (HBN)); (try replace NP1 := Lib.hid (NP1.out.keep (HBN))); (try replace NP2 := Lib.hid (NP2.out.keep (HBN))); (try replace ND1 := Lib.hid (ND1.out.keep (HBN))); (try replace ND2 := Lib.hid (ND2.out.keep (HBN))); (try replace NU1 := Lib.hid (NU1.out.keep (HBN))); (try replace NU2 := Lib.hid (NU2.out.keep (HBN))); replace LB0 := Lib.hid (LB0.out.keep (HBN)); replace LB1 := Lib.hid (LB1.out.keep (HBN)); replace LB2 := Lib.hid (LB2.out.keep (HBN)); replace LB3 := Lib.hid (LB3.out.keep (HBN)); replace HWc := Lib.hid (Below.next HWc.out (HBN)); clear q_0; have q_0 := LB0.out.cell; clear q_1; have q_1 := LB1.out.cell; clear q_2; have q_2 := LB2.out.cell; clear q_3; have q_3 := LB3.out.cell; have NU1 := Lib.hid hr.any; clear hr hb HBW HBN))
      | (go_at_call 52; refine at_world HWc (by first | (with_reducible exact Below.refl _ _) | (with_reducible exact (Below.refl _ _).drew) | (with_reducible exact Below.new _ _) | (with_reducible exact (Below.new _ _).drew) | (with_reducible exact (Below.new _ _).alloc (by simp) _) | (with_reducible exact ((Below.new _ _).alloc (by simp) _).drew)) (fun HBW => ?_); ((with_reducible refine (C8.out _ _ (HV.out.keep HBW) (HLL.out.keep HBW)).mono ?_); rintro e wn7 ⟨v7, rfl, hr, hb⟩; obtain ⟨qa7, qc7, qm7, qn7, rfl, -⟩ := hr.inv; have HBN := Below.next HBW hb; replace HV := Lib.hid (HV.out.keep (HBN)); replace HX := Lib.hid (HX.out.keep (HBN)); replace HLL := Lib.hid (HLL.out.keep (HBN)); replace HY1 := Lib.hid (HY1.out.keep (HBN)); replace HY2 := Lib.hid (HY2.out.keep (HBN)); (try replace NP1 := Lib.hid (NP1.out.keep (HBN))); (try replace NP2 := Lib.hid (NP2.out.keep (HBN))); (try replace ND1 := Lib.hid (ND1.out.keep (HBN))); (try replace ND2 := Lib.hid (ND2.out.keep (HBN))); (try replace NU1 := Lib.hid (NU1.out.keep (HBN))); (try replace NU2 := Lib.hid (NU2.out.keep (HBN))); replace LB0 := Lib.hid (LB0.out.keep (HBN)); replace LB1 := Lib.hid (LB1.out.keep (HBN)); replace LB2 := Lib.hid (LB2.out.keep (HBN)); replace LB3 := Lib.hid (LB3.out.keep (HBN)); replace HWc := Lib.hid (Below.next HWc.out (HBN)); clear q_0; have q_0 := LB0.out.cell; clear q_1; have q_1 := LB1.out.cell; clear q_2; have q_2 := LB2.out.cell; clear q_3; have q_3 := LB3.out.cell; have NU2 := Lib.hid hr.any; clear hr hb HBW HBN))
      | (go_at_call 28; refine at_world HWc (by first | (with_reducible exact Below.refl _ _) | (with_reducible exact (Below.refl _ _).drew) | (with_reducible exact Below.new _ _) | (with_reducible exact (Below.new _ _).drew) | (with_reducible exact (Below.new _ _).alloc (by simp) _) | (with_reducible exact ((Below.new _ _).alloc (by simp) _).drew)) (fun HBW => ?_); first | ((with_reducible refine (CS.out _ _ _ _ (NU1.out.keep HBW) (NU2.out.keep HBW)).mono ?_); rintro e wn8 ⟨rfl, hb⟩; have HBN := Below.next HBW hb; replace HV := Lib.hid (HV.out.keep (HBN)); replace HX := Lib.hid (HX.out.keep (HBN)); replace HLL := Lib.hid (HLL.out.keep (HBN)); replace HY1 := Lib.hid (HY1.out.keep (HBN)); replace HY2 := Lib.hid (HY2.out.keep (HBN)); (try replace NP1 := Lib.hid (NP1.out.keep (HBN))); (try replace NP2 := Lib.hid (NP2.out.keep (HBN))); (try replace ND1 := Lib.hid (ND1.out.keep (HBN))); (try replace ND2 := Lib.hid (ND2.out.keep (HBN))); (try replace NU1 := Lib.hid (NU1.out.keep (HBN))); (try replace NU2 := Lib.hid (NU2.out.keep (HBN))); replace LB0 := Lib.hid (LB0.out.keep (HBN)); replace LB1 := Lib.hid (LB1.out.keep (HBN)); replace LB2 := Lib.hid (LB2.out.keep (HBN)); replace LB3 := Lib.hid (LB3.out.keep (HBN)); replace HWc := Lib.hid (Below.next HWc.out (HBN)); clear q_0; have q_0 := LB0.out.cell; clear q_1; have q_1 := LB1.out.cell; clear q_2; have q_2 := LB2.out.cell; clear q_3; have q_3 := LB3.out.cell; clear hb HBW HBN) | ((with_reducible refine (CS.out _ _ _ _ (ND1.out.keep HBW) (ND2.out.keep HBW)).mono ?_); rintro e wn9 ⟨rfl, hb⟩; have HBN := Below.next HBW hb; replace HV := Lib.hid (HV.out.keep (HBN)); replace HX := Lib.hid (HX.out.keep (HBN)); replace HLL := Lib.hid (HLL.out.keep (HBN)); replace HY1 := Lib.hid (HY1.out.keep (HBN)); replace HY2 := Lib.hid (HY2.out.keep (HBN)); (try replace NP1 := Lib.hid (NP1.out.keep (HBN))); (try replace NP2 := Lib.hid (NP2.out.keep (HBN))); (try replace ND1 := Lib.hid (ND1.out.keep (HBN))); (try replace ND2 := Lib.hid (ND2.out.keep (HBN))); (try replace NU1 := Lib.hid (NU1.out.keep (HBN))); (try replace NU2 := Lib.hid (NU2.out.keep (HBN))); replace LB0 := Lib.hid (LB0.out.keep (HBN)); replace LB1 := Lib.hid (LB1.out.keep (HBN)); replace LB2 := Lib.hid (LB2.out.keep (HBN)); replace LB3 := Lib.hid (LB3.out.keep (HBN)); replace HWc := Lib.hid (Below.next HWc.out (HBN)); clear q_0; have q_0 := LB0.out.cell; clear q_1; have q_1 := LB1.out.cell; clear q_2; have q_2 := LB2.out.cell; clear q_3; have q_3 := LB3.out.cell; clear hb HBW HBN; clear ND1 ND2) | ((with_reducible refine (CS.out _ _ _ _ (NP1.out.keep HBW) (NP2.out.keep HBW)).mono ?_); rintro e wn10 ⟨rfl, hb⟩; have HBN := Below.next HBW hb; replace HV := Lib.hid (HV.out.keep (HBN)); replace HX := Lib.hid (HX.out.keep (HBN)); replace HLL := Lib.hid (HLL.out.keep (HBN)); replace HY1 := Lib.hid (HY1.out.keep (HBN)); replace HY2 := Lib.hid (HY2.out.keep (HBN)); (try replace NP1 := Lib.hid (NP1.out.keep (HBN))); (try replace NP2 := Lib.hid (NP2.out.keep (HBN))); (try replace ND1 := Lib.hid (ND1.out.keep (HBN))); (try replace ND2 := Lib.hid (ND2.out.keep (HBN))); (try replace NU1 := Lib.hid (NU1.out.keep (HBN))); (try replace NU2 := Lib.hid (NU2.out.keep (HBN))); replace LB0 := Lib.hid (LB0.out.keep (HBN)); replace LB1 := Lib.hid (LB1.out.keep (HBN)); replace LB2 := Lib.hid (LB2.out.keep (HBN)); replace LB3 := Lib.hid (LB3.out.keep (HBN)); replace HWc := Lib.hid (Below.next HWc.out (HBN)); clear q_0; have q_0 := LB0.out.cell; clear q_1; have q_1 := LB1.out.cell; clear q_2; have q_2 := LB2.out.cell; clear q_3; have q_3 := LB3.out.cell; clear hb HBW HBN; clear NP1 NP2) | ((with_reducible refine (CS.out _ _ _ _ (HY1.out.keep HBW) (HY2.out.keep HBW)).mono ?_); rintro e wn11 ⟨rfl, hb⟩; have HBN := Below.next HBW hb; replace HV := Lib.hid (HV.out.keep (HBN)); replace HX := Lib.hid (HX.out.keep (HBN)); replace HLL := Lib.hid (HLL.out.keep (HBN)); replace HY1 := Lib.hid (HY1.out.keep (HBN)); replace HY2 := Lib.hid (HY2.out.keep (HBN)); (try replace NP1 := Lib.hid (NP1.out.keep (HBN))); (try replace NP2 := Lib.hid (NP2.out.keep (HBN))); (try replace ND1 := Lib.hid (ND1.out.keep (HBN))); (try replace ND2 := Lib.hid (ND2.out.keep (HBN))); (try replace NU1 := Lib.hid (NU1.out.keep (HBN))); (try replace NU2 := Lib.hid (NU2.out.keep (HBN))); replace LB0 := Lib.hid (LB0.out.keep (HBN)); replace LB1 := Lib.hid (LB1.out.keep (HBN)); replace LB2 := Lib.hid (LB2.out.keep (HBN)); replace LB3 := Lib.hid (LB3.out.keep (HBN)); replace HWc := Lib.hid (Below.next HWc.out (HBN)); clear q_0; have q_0 := LB0.out.cell; clear q_1; have q_1 := LB1.out.cell; clear q_2; have q_2 := LB2.out.cell; clear q_3; have q_3 := LB3.out.cell; clear hb HBW HBN)))
  all_goals
    go_wp2_with fail
    go_ret
    exact ⟨rfl, HWc.out⟩

end Go.Proofs.Ytmdihildjblgnaa
