/- LayerOvers answers true for every input. -/
import Derived.Test.YthkkmnmejciomaaRDiff
import Derived.Test.YthkkmnmejciomaaP3B
import Derived.Test.YthkkmnmejciomaaPath
import Derived.Deep.RegionHeld3
import Derived.Deep.DrawnRows
namespace Go.Proofs.Ythkkmnmejciomaa
open Go.RowKit
attribute [local go_sem ↓] Go.wp_at_zero Go.wp_at_succ

set_option maxRecDepth 100000 in
set_option maxHeartbeats 16000000 in
theorem overs3 (a b : T) (l : List T) (al : Option Addr) (cl : Nat) (va vb : Value) (w : World) (ha : RepT w (fun _ => True) va a) (hb : RepT w (fun _ => True) vb b) (hl : RepL w (fun _ => True) al l) (hlz : l.length ≤ 4611686018427387904) :
    Calls Try.prog 3 #[va, vb, .slice al l.length cl] w fun e w' => e = .returned (.bool true) ∧ Below w.heap.size w w' := by
  have H_l := Lib.hid hl; clear hl
  obtain ⟨la, lc, ma, mc, rfl, -⟩ := ha.inv
  obtain ⟨la2, lc2, ma2, mc2, rfl, -⟩ := hb.inv
  have H_a := Lib.hid ha
  have H_b := Lib.hid hb
  clear ha hb
  go_enter Try.func3, Try.ntmps3
  go_wp2_with fail
  refine (right [a, b] _ (fun _ => True) _ 2 (repE_L.1 (rep_block (E := eltV) (S := fun _ => True) (l := [a, b]) [[.int .i64 a.kind, .bool a.bool, .int .i64 a.int, .string a.str, .slice la a.list.length lc, .slice ma a.map.length mc], [.int .i64 b.kind, .bool b.bool, .int .i64 b.int, .string b.str, .slice la2 b.list.length lc2, .slice ma2 b.map.length mc2]] (Blk.new_at ((w.alloc (.cells #[.int .i64 a.kind, .bool a.bool, .int .i64 a.int, .string a.str, .slice la a.list.length lc, .slice ma a.map.length mc] 25)).alloc (.cells #[.int .i64 b.kind, .bool b.bool, .int .i64 b.int, .string b.str, .slice la2 b.list.length lc2, .slice ma2 b.map.length mc2] 25)) 25 #[.int .i64 a.kind, .bool a.bool, .int .i64 a.int, .string a.str, .slice la a.list.length lc, .slice ma a.map.length mc, .int .i64 b.kind, .bool b.bool, .int .i64 b.int, .string b.str, .slice la2 b.list.length lc2, .slice ma2 b.map.length mc2] (n := w.heap.size + 1 + 1) (by simp)) rfl trivial ⟨(H_a.out.keep (by exact ((Below.new _ _).alloc (by simp) _).alloc (by simp; omega) _)), (H_b.out.keep (by exact ((Below.new _ _).alloc (by simp) _).alloc (by simp; omega) _)), trivial⟩)) (by simp)).mono ?_
  rintro e w1 ⟨r, rfl, hr, hb⟩
  have HD1 := Lib.hid (show Below w.heap.size w w1 from Below.next (((Below.new _ _).alloc (by simp) _).alloc (by simp; omega) _) hb)
  have L1_0 := Lib.hid ((((Blk.new w 25 #[.int .i64 a.kind, .bool a.bool, .int .i64 a.int, .string a.str, .slice la a.list.length lc, .slice ma a.map.length mc]).alloc (.cells #[.int .i64 b.kind, .bool b.bool, .int .i64 b.int, .string b.str, .slice la2 b.list.length lc2, .slice ma2 b.map.length mc2] 25)).alloc (.cells #[.int .i64 a.kind, .bool a.bool, .int .i64 a.int, .string a.str, .slice la a.list.length lc, .slice ma a.map.length mc, .int .i64 b.kind, .bool b.bool, .int .i64 b.int, .string b.str, .slice la2 b.list.length lc2, .slice ma2 b.map.length mc2] 25)).keep hb)
  have L1_1 := Lib.hid (((Blk.new_at (w.alloc (.cells #[.int .i64 a.kind, .bool a.bool, .int .i64 a.int, .string a.str, .slice la a.list.length lc, .slice ma a.map.length mc] 25)) 25 #[.int .i64 b.kind, .bool b.bool, .int .i64 b.int, .string b.str, .slice la2 b.list.length lc2, .slice ma2 b.map.length mc2] (n := w.heap.size + 1) (by simp)).alloc (.cells #[.int .i64 a.kind, .bool a.bool, .int .i64 a.int, .string a.str, .slice la a.list.length lc, .slice ma a.map.length mc, .int .i64 b.kind, .bool b.bool, .int .i64 b.int, .string b.str, .slice la2 b.list.length lc2, .slice ma2 b.map.length mc2] 25)).keep hb)
  have V1_a := Lib.hid (H_a.out.keep HD1.out)
  have V1_b := Lib.hid (H_b.out.keep HD1.out)
  have V1_l := Lib.hid (H_l.out.keep HD1.out)
  have HW1 := Lib.hid (show Below w.heap.size w w1 from HD1.out)
  clear hb HD1 H_a H_b H_l
  have k1_0 := L1_0.out.cell
  have l1_0 := L1_0.out.lt
  have k1_1 := L1_1.out.cell
  have l1_1 := L1_1.out.lt
  have HR := Lib.hid hr
  clear hr
  cases r
  · go_wp2_with (go_at_call 5; refine (awake3 _).mono ?_; rintro e w9 ⟨rfl, hb9⟩)
    go_ret
    exact ⟨rfl, Below.next HW1.out hb9⟩
  by_cases h8 : l.length ≤ 8
  case neg =>
    have g8 : (8 : Int) < (l.length : Int) := by omega
    clear h8 HR
    go_wp2_with (go_at_call 5; refine (awake3 _).mono ?_; rintro e w9 ⟨rfl, hb9⟩)
    go_ret
    exact ⟨rfl, Below.next HW1.out hb9⟩
  have g8 : ¬ (8 : Int) < (l.length : Int) := by omega
  go_wp2_with fail
  refine (right l _ (fun _ => True) _ _ (V1_l.out) hlz).mono ?_
  rintro e w2 ⟨r, rfl, hr, hb⟩
  have HR2 := Lib.hid hr; clear hr
  have HD2 := Lib.hid (show Below w1.heap.size w1 w2 from hb)
  have L2_0 := Lib.hid (L1_0.out.keep HD2.out)
  have L2_1 := Lib.hid (L1_1.out.keep HD2.out)
  have V2_a := Lib.hid (V1_a.out.keep HD2.out)
  have V2_b := Lib.hid (V1_b.out.keep HD2.out)
  have V2_l := Lib.hid (V1_l.out.keep HD2.out)
  have HW2 := Lib.hid (Below.next HW1.out HD2.out)
  clear k1_0 l1_0 k1_1 l1_1 hb HD2 L1_0 L1_1 V1_a V1_b V1_l HW1
  have k2_0 := L2_0.out.cell
  have l2_0 := L2_0.out.lt
  have k2_1 := L2_1.out.cell
  have l2_1 := L2_1.out.lt
  cases r
  · go_wp2_with (go_at_call 5; refine (awake3 _).mono ?_; rintro e w9 ⟨rfl, hb9⟩)
    go_ret
    exact ⟨rfl, Below.next HW2.out hb9⟩
  have hga : Good a := (show ∀ x ∈ [a, b], Good x from by first | exact HR.out rfl | exact HR.out trivial) a (by simp)
  have hgb : Good b := (show ∀ x ∈ [a, b], Good x from by first | exact HR.out rfl | exact HR.out trivial) b (by simp)
  have hgl : ∀ x ∈ l, Neat 6000 x := fun x hx => ((show ∀ x ∈ l, Good x from by first | exact HR2.out rfl | exact HR2.out trivial) x hx).neat
  obtain ⟨ot, hot⟩ : ∃ s, s = b.over a := ⟨_, rfl⟩
  obtain ⟨at9, hat⟩ : ∃ s, s = allT l := ⟨_, rfl⟩
  obtain ⟨st, hst⟩ : ∃ s, s = a.strip := ⟨_, rfl⟩
  obtain ⟨dt, hdt⟩ : ∃ s, s = b.diff a := ⟨_, rfl⟩
  obtain ⟨pa, hpa⟩ : ∃ z : Bool, z = true ↔ PlainT a := ⟨@decide (PlainT a) (Classical.propDecidable _), by simp⟩
  obtain ⟨pb, hpb⟩ : ∃ z : Bool, z = true ↔ PlainT b := ⟨@decide (PlainT b) (Classical.propDecidable _), by simp⟩
  have CO : Hid (∀ (w : World) (c : Value) (d : Value), RepT w (fun _ => True) c a → RepT w (fun _ => True) d b → Calls Try.prog 7 #[c, d] w (NewPost w ot)) := fun w c d h0 h1 => hot ▸ tover (na := 6000) (nb := 6000) (by omega) b a hga.neat hgb.neat c d w _ _ h0 h1
  have CQ : Hid (∀ (w : World) (c : Value) (d : Value), RepT w (fun _ => True) c a → RepT w (fun _ => True) d b → Calls Try.prog 8 #[c, d] w (ValPostS (fun _ => True) w ot)) := fun w c d h0 h1 => hot ▸ rover (na := 6000) (nb := 6000) (by omega) b a hga.neat hgb.neat c d w _ h0 h1
  have CX : Hid (∀ (w : World) (c : Value) (d : Value), RepT w (fun _ => True) c a → RepT w (fun _ => True) d b → Calls Try.prog 13 #[c, d] w (NewPost w dt)) := fun w c d h0 h1 => hdt ▸ tdiff (na := 6000) (nb := 6000) (by omega) b a hga.neat hgb.neat c d w _ _ h0 h1
  have CY : Hid (∀ (w : World) (c : Value) (d : Value), RepT w (fun _ => True) c a → RepT w (fun _ => True) d b → Calls Try.prog 14 #[c, d] w (ValPostS (fun _ => True) w dt)) := fun w c d h0 h1 => hdt ▸ rdiff (na := 6000) (nb := 6000) (by omega) b a hga.neat hgb.neat c d w _ h0 h1
  have CT : Hid (∀ (w : World) (c : Value), RepT w (fun _ => True) c a → Calls Try.prog 12 #[c] w (ValPostS (fun _ => True) w st)) := fun w c h0 => hst ▸ rstrip (n := 6000) (by omega) a hga.neat c w _ h0
  have CPA : Hid (∀ (w : World) (c : Value), RepT w (fun _ => True) c a → Calls Try.prog 11 #[c] w (fun e w' => e = .returned (.bool pa) ∧ Below w.heap.size w w')) := fun w c h0 => tplain (n := 6000) (by omega) a hga.neat pa hpa c w _ h0
  have CPB : Hid (∀ (w : World) (c : Value), RepT w (fun _ => True) c b → Calls Try.prog 11 #[c] w (fun e w' => e = .returned (.bool pb) ∧ Below w.heap.size w w')) := fun w c h0 => tplain (n := 6000) (by omega) b hgb.neat pb hpb c w _ h0
  have CA : Hid (∀ (w : World), RepL w (fun _ => True) al l → Calls Try.prog 9 #[.slice al l.length cl] w (NewPost w at9)) := fun w h => hat ▸ tall (n := 6000) l hgl (by omega) (by omega) al cl w _ h
  have CB : Hid (∀ (w : World), RepL w (fun _ => True) al l → Calls Try.prog 10 #[.slice al l.length cl] w (ValPostS (fun _ => True) w at9)) := fun w h => hat ▸ rall (n := 6000) l hgl (by omega) (by omega) al cl w _ h
  have CS := Lib.hid (fun (x : T) (w : World) (c d : Value) (h0 : RepT w (fun _ => True) c x) (h1 : RepT w (fun _ => True) d x) => rsame_true (rfl : x = x) w _ _ c d h0 h1)
  have CSA := Lib.hid (show ∀ (w : World) (c d : Value), RepT w (fun _ => True) c st → RepT w (fun _ => True) d a → Calls Try.prog 6 #[c, d] w (fun e w' => e = .returned (.bool pa) ∧ Below w.heap.size w w') from fun w c d h0 h1 => by
    cases pa with
    | true => exact rsame_true (hst.trans (hpa.1 rfl)) w _ _ c d h0 h1
    | false => exact rsame_false (fun e => by have := hpa.2 (hst.symm.trans e); cases this) w _ _ c d h0 h1)
  have gpp : (pa != pa) = false := by simp
  clear hot hat hst hdt hpa hpb hgl hga hgb HR HR2
  go_wp2_with fail
  obtain ⟨w3, hwz⟩ : ∃ wz9, wz9 = w2 := ⟨_, rfl⟩
  have hb : Below w2.heap.size w2 w3 := by rw [hwz]; exact Below.refl _ _
  rw [← hwz]
  clear hwz
  have HD3 := Lib.hid (show Below w2.heap.size w2 w3 from hb)
  have L3_0 := Lib.hid (L2_0.out.keep HD3.out)
  have L3_1 := Lib.hid (L2_1.out.keep HD3.out)
  have V3_a := Lib.hid (V2_a.out.keep HD3.out)
  have V3_b := Lib.hid (V2_b.out.keep HD3.out)
  have V3_l := Lib.hid (V2_l.out.keep HD3.out)
  have HW3 := Lib.hid (Below.next HW2.out HD3.out)
  clear k2_0 l2_0 k2_1 l2_1 hb HD3 L2_0 L2_1 V2_a V2_b V2_l HW2
  have k3_0 := L3_0.out.cell
  have l3_0 := L3_0.out.lt
  have k3_1 := L3_1.out.cell
  have l3_1 := L3_1.out.lt
  go_wp2_with fail
  have HA := V3_a; have HB := V3_b; have HL := V3_l; have HWc := HW3
  clear k3_0 k3_1
  have LB0 := L3_0
  have LB1 := L3_1
  have q_0 := LB0.out.cell; have q_1 := LB1.out.cell
  clear V3_a V3_b V3_l HW3 L3_0 L3_1
  have tok1 : True := trivial; have tok2 : True := trivial
  go_region_held3 (fun w' => (∀ i, w'.cell? ⟨w.heap.size, i, none⟩ = (#[.int .i64 a.kind, .bool a.bool, .int .i64 a.int, .string a.str, .slice la a.list.length lc, .slice ma a.map.length mc] : Array Value)[i]?) ∧ (∀ i, w'.cell? ⟨w.heap.size + 1, i, none⟩ = (#[.int .i64 b.kind, .bool b.bool, .int .i64 b.int, .string b.str, .slice la2 b.list.length lc2, .slice ma2 b.map.length mc2] : Array Value)[i]?)) (first | (with_reducible exact ⟨q_0, q_1⟩) | (refine ⟨fun i => ?_, fun i => ?_⟩ <;> (simp only [cell_drew]; first | (with_reducible exact q_0 i) | (with_reducible exact q_1 i)))) (first
      | (go_at_call 7; refine at_world HWc (by first | (with_reducible exact Below.refl _ _) | (with_reducible exact (Below.refl _ _).drew) | (with_reducible exact Below.new _ _) | (with_reducible exact (Below.new _ _).drew) | (with_reducible exact (Below.new _ _).alloc (by simp) _) | (with_reducible exact ((Below.new _ _).alloc (by simp) _).drew)) (fun HBW => ?_); ((with_reducible refine (CO.out _ _ _ (HA.out.keep HBW) (HB.out.keep HBW)).mono ?_); rintro e wn1 ⟨v1, rfl, hr, hb⟩; obtain ⟨qa1, qc1, qm1, qn1, rfl, -⟩ := hr.inv; have HBN := Below.next HBW hb; replace HA := Lib.hid (HA.out.keep (HBN)); replace HB := Lib.hid (HB.out.keep (HBN)); replace HL := Lib.hid (HL.out.keep (HBN)); (try replace NO := Lib.hid (NO.out.keep (HBN))); (try replace NQ := Lib.hid (NQ.out.keep (HBN))); (try replace NA := Lib.hid (NA.out.keep (HBN))); (try replace NB := Lib.hid (NB.out.keep (HBN))); (try replace NT := Lib.hid (NT.out.keep (HBN))); replace LB0 := Lib.hid (LB0.out.keep (HBN)); replace LB1 := Lib.hid (LB1.out.keep (HBN)); replace HWc := Lib.hid (Below.next HWc.out (HBN)); clear q_0; have q_0 := LB0.out.cell; clear q_1; have q_1 := LB1.out.cell; have NO := Lib.hid hr.any; clear hr hb HBW HBN))
      | (go_at_call 8; refine at_world HWc (by first | (with_reducible exact Below.refl _ _) | (with_reducible exact (Below.refl _ _).drew) | (with_reducible exact Below.new _ _) | (with_reducible exact (Below.new _ _).drew) | (with_reducible exact (Below.new _ _).alloc (by simp) _) | (with_reducible exact ((Below.new _ _).alloc (by simp) _).drew)) (fun HBW => ?_); ((with_reducible refine (CQ.out _ _ _ (HA.out.keep HBW) (HB.out.keep HBW)).mono ?_); rintro e wn2 ⟨v2, rfl, hr, hb⟩; obtain ⟨qa2, qc2, qm2, qn2, rfl, -⟩ := hr.inv; have HBN := Below.next HBW hb; replace HA := Lib.hid (HA.out.keep (HBN)); replace HB := Lib.hid (HB.out.keep (HBN)); replace HL := Lib.hid (HL.out.keep (HBN)); (try replace NO := Lib.hid (NO.out.keep (HBN))); (try replace NQ := Lib.hid (NQ.out.keep (HBN))); (try replace NA := Lib.hid (NA.out.keep (HBN))); (try replace NB := Lib.hid (NB.out.keep (HBN))); (try replace NT := Lib.hid (NT.out.keep (HBN))); replace LB0 := Lib.hid (LB0.out.keep (HBN)); replace LB1 := Lib.hid (LB1.out.keep (HBN)); replace HWc := Lib.hid (Below.next HWc.out (HBN)); clear q_0; have q_0 := LB0.out.cell; clear q_1; have q_1 := LB1.out.cell; have NQ := Lib.hid hr.any; clear hr hb HBW HBN))
      | (go_at_call 6; refine at_world HWc (by first | (with_reducible exact Below.refl _ _) | (with_reducible exact (Below.refl _ _).drew) | (with_reducible exact Below.new _ _) | (with_reducible exact (Below.new _ _).drew) | (with_reducible exact (Below.new _ _).alloc (by simp) _) | (with_reducible exact ((Below.new _ _).alloc (by simp) _).drew)) (fun HBW => ?_); first | (have _t := tok1; clear tok1 _t; (with_reducible refine (CS.out ot _ _ _ (NO.out.keep HBW) (NQ.out.keep HBW)).mono ?_); rintro e wn3 ⟨rfl, hb⟩; have HBN := Below.next HBW hb; replace HA := Lib.hid (HA.out.keep (HBN)); replace HB := Lib.hid (HB.out.keep (HBN)); replace HL := Lib.hid (HL.out.keep (HBN)); (try replace NO := Lib.hid (NO.out.keep (HBN))); (try replace NQ := Lib.hid (NQ.out.keep (HBN))); (try replace NA := Lib.hid (NA.out.keep (HBN))); (try replace NB := Lib.hid (NB.out.keep (HBN))); (try replace NT := Lib.hid (NT.out.keep (HBN))); replace LB0 := Lib.hid (LB0.out.keep (HBN)); replace LB1 := Lib.hid (LB1.out.keep (HBN)); replace HWc := Lib.hid (Below.next HWc.out (HBN)); clear q_0; have q_0 := LB0.out.cell; clear q_1; have q_1 := LB1.out.cell; clear hb HBW HBN; clear NO NQ) | (have _t := tok2; clear tok2 _t; (with_reducible refine (CS.out at9 _ _ _ (NA.out.keep HBW) (NB.out.keep HBW)).mono ?_); rintro e wn6 ⟨rfl, hb⟩; have HBN := Below.next HBW hb; replace HA := Lib.hid (HA.out.keep (HBN)); replace HB := Lib.hid (HB.out.keep (HBN)); replace HL := Lib.hid (HL.out.keep (HBN)); (try replace NO := Lib.hid (NO.out.keep (HBN))); (try replace NQ := Lib.hid (NQ.out.keep (HBN))); (try replace NA := Lib.hid (NA.out.keep (HBN))); (try replace NB := Lib.hid (NB.out.keep (HBN))); (try replace NT := Lib.hid (NT.out.keep (HBN))); replace LB0 := Lib.hid (LB0.out.keep (HBN)); replace LB1 := Lib.hid (LB1.out.keep (HBN)); replace HWc := Lib.hid (Below.next HWc.out (HBN)); clear q_0; have q_0 := LB0.out.cell; clear q_1; have q_1 := LB1.out.cell; clear hb HBW HBN; clear NA NB) | ((with_reducible refine (CSA.out _ _ _ (NT.out.keep HBW) (HA.out.keep HBW)).mono ?_); rintro e wn9 ⟨rfl, hb⟩; have HBN := Below.next HBW hb; replace HA := Lib.hid (HA.out.keep (HBN)); replace HB := Lib.hid (HB.out.keep (HBN)); replace HL := Lib.hid (HL.out.keep (HBN)); (try replace NO := Lib.hid (NO.out.keep (HBN))); (try replace NQ := Lib.hid (NQ.out.keep (HBN))); (try replace NA := Lib.hid (NA.out.keep (HBN))); (try replace NB := Lib.hid (NB.out.keep (HBN))); (try replace NT := Lib.hid (NT.out.keep (HBN))); replace LB0 := Lib.hid (LB0.out.keep (HBN)); replace LB1 := Lib.hid (LB1.out.keep (HBN)); replace HWc := Lib.hid (Below.next HWc.out (HBN)); clear q_0; have q_0 := LB0.out.cell; clear q_1; have q_1 := LB1.out.cell; clear hb HBW HBN; clear NT))
      | (go_at_call 9; refine at_world HWc (by first | (with_reducible exact Below.refl _ _) | (with_reducible exact (Below.refl _ _).drew) | (with_reducible exact Below.new _ _) | (with_reducible exact (Below.new _ _).drew) | (with_reducible exact (Below.new _ _).alloc (by simp) _) | (with_reducible exact ((Below.new _ _).alloc (by simp) _).drew)) (fun HBW => ?_); ((with_reducible refine (CA.out _ (HL.out.keep HBW)).mono ?_); rintro e wn4 ⟨v4, rfl, hr, hb⟩; obtain ⟨qa4, qc4, qm4, qn4, rfl, -⟩ := hr.inv; have HBN := Below.next HBW hb; replace HA := Lib.hid (HA.out.keep (HBN)); replace HB := Lib.hid (HB.out.keep (HBN)); replace HL := Lib.hid (HL.out.keep (HBN)); (try replace NO := Lib.hid (NO.out.keep (HBN))); (try replace NQ := Lib.hid (NQ.out.keep (HBN))); (try replace NA := Lib.hid (NA.out.keep (HBN))); (try replace NB := Lib.hid (NB.out.keep (HBN))); (try replace NT := Lib.hid (NT.out.keep (HBN))); replace LB0 := Lib.hid (LB0.out.keep (HBN)); replace LB1 := Lib.hid (LB1.out.keep (HBN)); replace HWc := Lib.hid (Below.next HWc.out (HBN)); clear q_0; have q_0 := LB0.out.cell; clear q_1; have q_1 := LB1.out.cell; have NA := Lib.hid hr.any; clear hr hb HBW HBN))
      | (go_at_call 10; refine at_world HWc (by first | (with_reducible exact Below.refl _ _) | (with_reducible exact (Below.refl _ _).drew) | (with_reducible exact Below.new _ _) | (with_reducible exact (Below.new _ _).drew) | (with_reducible exact (Below.new _ _).alloc (by simp) _) | (with_reducible exact ((Below.new _ _).alloc (by simp) _).drew)) (fun HBW => ?_); ((with_reducible refine (CB.out _ (HL.out.keep HBW)).mono ?_); rintro e wn5 ⟨v5, rfl, hr, hb⟩; obtain ⟨qa5, qc5, qm5, qn5, rfl, -⟩ := hr.inv; have HBN := Below.next HBW hb; replace HA := Lib.hid (HA.out.keep (HBN)); replace HB := Lib.hid (HB.out.keep (HBN)); replace HL := Lib.hid (HL.out.keep (HBN)); (try replace NO := Lib.hid (NO.out.keep (HBN))); (try replace NQ := Lib.hid (NQ.out.keep (HBN))); (try replace NA := Lib.hid (NA.out.keep (HBN))); (try replace NB := Lib.hid (NB.out.keep (HBN))); (try replace NT := Lib.hid (NT.out.keep (HBN))); replace LB0 := Lib.hid (LB0.out.keep (HBN)); replace LB1 := Lib.hid (LB1.out.keep (HBN)); replace HWc := Lib.hid (Below.next HWc.out (HBN)); clear q_0; have q_0 := LB0.out.cell; clear q_1; have q_1 := LB1.out.cell; have NB := Lib.hid hr.any; clear hr hb HBW HBN))
      | (go_at_call 11; refine at_world HWc (by first | (with_reducible exact Below.refl _ _) | (with_reducible exact (Below.refl _ _).drew) | (with_reducible exact Below.new _ _) | (with_reducible exact (Below.new _ _).drew) | (with_reducible exact (Below.new _ _).alloc (by simp) _) | (with_reducible exact ((Below.new _ _).alloc (by simp) _).drew)) (fun HBW => ?_); ((with_reducible refine (CPA.out _ _ (HA.out.keep HBW)).mono ?_); rintro e wn7 ⟨rfl, hb⟩; have HBN := Below.next HBW hb; replace HA := Lib.hid (HA.out.keep (HBN)); replace HB := Lib.hid (HB.out.keep (HBN)); replace HL := Lib.hid (HL.out.keep (HBN)); (try replace NO := Lib.hid (NO.out.keep (HBN))); (try replace NQ := Lib.hid (NQ.out.keep (HBN))); (try replace NA := Lib.hid (NA.out.keep (HBN))); (try replace NB := Lib.hid (NB.out.keep (HBN))); (try replace NT := Lib.hid (NT.out.keep (HBN))); replace LB0 := Lib.hid (LB0.out.keep (HBN)); replace LB1 := Lib.hid (LB1.out.keep (HBN)); replace HWc := Lib.hid (Below.next HWc.out (HBN)); clear q_0; have q_0 := LB0.out.cell; clear q_1; have q_1 := LB1.out.cell; clear hb HBW HBN))
      | (go_at_call 12; refine at_world HWc (by first | (with_reducible exact Below.refl _ _) | (with_reducible exact (Below.refl _ _).drew) | (with_reducible exact Below.new _ _) | (with_reducible exact (Below.new _ _).drew) | (with_reducible exact (Below.new _ _).alloc (by simp) _) | (with_reducible exact ((Below.new _ _).alloc (by simp) _).drew)) (fun HBW => ?_); ((with_reducible refine (CT.out _ _ (HA.out.keep HBW)).mono ?_); rintro e wn8 ⟨v8, rfl, hr, hb⟩; obtain ⟨qa8, qc8, qm8, qn8, rfl, -⟩ := hr.inv; have HBN := Below.next HBW hb; replace HA := Lib.hid (HA.out.keep (HBN)); replace HB := Lib.hid (HB.out.keep (HBN)); replace HL := Lib.hid (HL.out.keep (HBN)); (try replace NO := Lib.hid (NO.out.keep (HBN))); (try replace NQ := Lib.hid (NQ.out.keep (HBN))); (try replace NA := Lib.hid (NA.out.keep (HBN))); (try replace NB := Lib.hid (NB.out.keep (HBN))); (try replace NT := Lib.hid (NT.out.keep (HBN))); replace LB0 := Lib.hid (LB0.out.keep (HBN)); replace LB1 := Lib.hid (LB1.out.keep (HBN)); replace HWc := Lib.hid (Below.next HWc.out (HBN)); clear q_0; have q_0 := LB0.out.cell; clear q_1; have q_1 := LB1.out.cell; have NT := Lib.hid hr.any; clear hr hb HBW HBN)))
  all_goals
    clear CO CQ CA CB CT CSA
    clear q_0 q_1
    have k0 := LB0.out.cell; have l0 := LB0.out.lt; have k1 := LB1.out.cell; have l1 := LB1.out.lt
    by_cases h5 : a.kind = 5
    case neg =>
      have gh5 : (a.kind != 5) = true := bne_iff_ne.2 h5
      clear h5
      go_wp2_with (go_at_call 5; refine (awake3 _).mono ?_; rintro e w9 ⟨rfl, hb9⟩)
      go_ret
      exact ⟨rfl, Below.next HWc.out hb9⟩
    by_cases h6 : b.kind = 5
    case neg =>
      have gh6 : (b.kind != 5) = true := bne_iff_ne.2 h6
      have gh5 : (a.kind != 5) = false := by rw [h5]; rfl
      clear h5
      clear h6
      go_wp2_with (go_at_call 5; refine (awake3 _).mono ?_; rintro e w9 ⟨rfl, hb9⟩)
      go_ret
      exact ⟨rfl, Below.next HWc.out hb9⟩
    have gh5 : (a.kind != 5) = false := by rw [h5]; rfl
    have gh6 : (b.kind != 5) = false := by rw [h6]; rfl
    clear h5 h6
    go_wp2_with fail
    refine (CPA.out _ _ HA.out).mono ?_
    rintro e wp ⟨rfl, hbp⟩
    replace HA := Lib.hid (HA.out.keep hbp); replace HB := Lib.hid (HB.out.keep hbp); replace LB0 := Lib.hid (LB0.out.keep hbp); replace LB1 := Lib.hid (LB1.out.keep hbp); replace HWc := Lib.hid (Below.next HWc.out hbp); clear hbp k0 l0 k1 l1
    have k0 := LB0.out.cell; have l0 := LB0.out.lt; have k1 := LB1.out.cell; have l1 := LB1.out.lt
    cases pa
    · go_wp2_with (go_at_call 5; refine (awake3 _).mono ?_; rintro e w9 ⟨rfl, hb9⟩)
      go_ret
      exact ⟨rfl, Below.next HWc.out hb9⟩
    go_wp2_with fail
    refine (CPB.out _ _ HB.out).mono ?_
    rintro e wp2 ⟨rfl, hbp⟩
    replace HA := Lib.hid (HA.out.keep hbp); replace HB := Lib.hid (HB.out.keep hbp); replace LB0 := Lib.hid (LB0.out.keep hbp); replace LB1 := Lib.hid (LB1.out.keep hbp); replace HWc := Lib.hid (Below.next HWc.out hbp); clear hbp k0 l0 k1 l1
    have k0 := LB0.out.cell; have l0 := LB0.out.lt; have k1 := LB1.out.cell; have l1 := LB1.out.lt
    cases pb
    · go_wp2_with (go_at_call 5; refine (awake3 _).mono ?_; rintro e w9 ⟨rfl, hb9⟩)
      go_ret
      exact ⟨rfl, Below.next HWc.out hb9⟩
    go_wp2_with fail
    clear k0 k1
    have q_0 := LB0.out.cell; have q_1 := LB1.out.cell
    go_region_held3 (fun w' => (∀ i, w'.cell? ⟨w.heap.size, i, none⟩ = (#[.int .i64 a.kind, .bool a.bool, .int .i64 a.int, .string a.str, .slice la a.list.length lc, .slice ma a.map.length mc] : Array Value)[i]?) ∧ (∀ i, w'.cell? ⟨(w.heap.size + 1), i, none⟩ = (#[.int .i64 b.kind, .bool b.bool, .int .i64 b.int, .string b.str, .slice la2 b.list.length lc2, .slice ma2 b.map.length mc2] : Array Value)[i]?)) (first | (with_reducible exact ⟨q_0, q_1⟩) | (refine ⟨fun i => ?_, fun i => ?_⟩ <;> (simp only [cell_drew]; first | (with_reducible exact q_0 i) | (with_reducible exact q_1 i)))) (first
        | (go_at_call 5; refine at_world HWc (by first | (with_reducible exact Below.refl _ _) | (with_reducible exact (Below.refl _ _).drew) | (with_reducible exact Below.new _ _) | (with_reducible exact (Below.new _ _).drew) | (with_reducible exact (Below.new _ _).alloc (by simp) _) | (with_reducible exact ((Below.new _ _).alloc (by simp) _).drew)) (fun HBW => ?_); ((with_reducible refine (awake3 _).mono ?_); rintro e wn1 ⟨rfl, hb⟩; have HBN := Below.next HBW hb; replace HA := Lib.hid (HA.out.keep (HBN)); replace HB := Lib.hid (HB.out.keep (HBN)); (try replace ND := Lib.hid (ND.out.keep (HBN))); (try replace NE := Lib.hid (NE.out.keep (HBN))); replace LB0 := Lib.hid (LB0.out.keep (HBN)); replace LB1 := Lib.hid (LB1.out.keep (HBN)); replace HWc := Lib.hid (Below.next HWc.out (HBN)); clear q_0; have q_0 := LB0.out.cell; clear q_1; have q_1 := LB1.out.cell; clear hb HBW HBN))
        | (go_at_call 13; refine at_world HWc (by first | (with_reducible exact Below.refl _ _) | (with_reducible exact (Below.refl _ _).drew) | (with_reducible exact Below.new _ _) | (with_reducible exact (Below.new _ _).drew) | (with_reducible exact (Below.new _ _).alloc (by simp) _) | (with_reducible exact ((Below.new _ _).alloc (by simp) _).drew)) (fun HBW => ?_); ((with_reducible refine (CX.out _ _ _ (HA.out.keep HBW) (HB.out.keep HBW)).mono ?_); rintro e wn2 ⟨v2, rfl, hr, hb⟩; obtain ⟨qa2, qc2, qm2, qn2, rfl, -⟩ := hr.inv; have HBN := Below.next HBW hb; replace HA := Lib.hid (HA.out.keep (HBN)); replace HB := Lib.hid (HB.out.keep (HBN)); (try replace ND := Lib.hid (ND.out.keep (HBN))); (try replace NE := Lib.hid (NE.out.keep (HBN))); replace LB0 := Lib.hid (LB0.out.keep (HBN)); replace LB1 := Lib.hid (LB1.out.keep (HBN)); replace HWc := Lib.hid (Below.next HWc.out (HBN)); clear q_0; have q_0 := LB0.out.cell; clear q_1; have q_1 := LB1.out.cell; have ND := Lib.hid hr.any; clear hr hb HBW HBN))
        | (go_at_call 14; refine at_world HWc (by first | (with_reducible exact Below.refl _ _) | (with_reducible exact (Below.refl _ _).drew) | (with_reducible exact Below.new _ _) | (with_reducible exact (Below.new _ _).drew) | (with_reducible exact (Below.new _ _).alloc (by simp) _) | (with_reducible exact ((Below.new _ _).alloc (by simp) _).drew)) (fun HBW => ?_); ((with_reducible refine (CY.out _ _ _ (HA.out.keep HBW) (HB.out.keep HBW)).mono ?_); rintro e wn3 ⟨v3, rfl, hr, hb⟩; obtain ⟨qa3, qc3, qm3, qn3, rfl, -⟩ := hr.inv; have HBN := Below.next HBW hb; replace HA := Lib.hid (HA.out.keep (HBN)); replace HB := Lib.hid (HB.out.keep (HBN)); (try replace ND := Lib.hid (ND.out.keep (HBN))); (try replace NE := Lib.hid (NE.out.keep (HBN))); replace LB0 := Lib.hid (LB0.out.keep (HBN)); replace LB1 := Lib.hid (LB1.out.keep (HBN)); replace HWc := Lib.hid (Below.next HWc.out (HBN)); clear q_0; have q_0 := LB0.out.cell; clear q_1; have q_1 := LB1.out.cell; have NE := Lib.hid hr.any; clear hr hb HBW HBN))
        | (go_at_call 6; refine at_world HWc (by first | (with_reducible exact Below.refl _ _) | (with_reducible exact (Below.refl _ _).drew) | (with_reducible exact Below.new _ _) | (with_reducible exact (Below.new _ _).drew) | (with_reducible exact (Below.new _ _).alloc (by simp) _) | (with_reducible exact ((Below.new _ _).alloc (by simp) _).drew)) (fun HBW => ?_); ((with_reducible refine (CS.out dt _ _ _ (ND.out.keep HBW) (NE.out.keep HBW)).mono ?_); rintro e wn4 ⟨rfl, hb⟩; have HBN := Below.next HBW hb; replace HA := Lib.hid (HA.out.keep (HBN)); replace HB := Lib.hid (HB.out.keep (HBN)); (try replace ND := Lib.hid (ND.out.keep (HBN))); (try replace NE := Lib.hid (NE.out.keep (HBN))); replace LB0 := Lib.hid (LB0.out.keep (HBN)); replace LB1 := Lib.hid (LB1.out.keep (HBN)); replace HWc := Lib.hid (Below.next HWc.out (HBN)); clear q_0; have q_0 := LB0.out.cell; clear q_1; have q_1 := LB1.out.cell; clear hb HBW HBN; clear ND NE)))
    all_goals
      go_wp2_with fail
      go_ret
      exact ⟨rfl, HWc.out⟩

end Go.Proofs.Ythkkmnmejciomaa
