/- Several texts as one. -/
import Derived.Test.YthkkmnmejciomaaOut
import Derived.Test.YthkkmnmejciomaaLayF
import Derived.Test.YthkkmnmejciomaaMake
import Derived.Deep.RegionHeld3
import Derived.Deep.DrawnRows
/- The laws' pair of a key and a value. -/
namespace Go.Proofs.Ythkkmnmejciomaa
open Go.RowKit
attribute [local go_sem ↓] Go.wp_at_zero Go.wp_at_succ

set_option maxRecDepth 100000 in
set_option maxHeartbeats 400000 in
/-- A pair, made of a key and a value. -/
theorem tpair (k : ByteArray) (t : T) (la : Option Addr) (lc : Nat) (ma : Option Addr) (mc : Nat) (w : World) :
    Calls Try.prog 18 #[.string k, .agg #[.int .i64 t.kind, .bool t.bool, .int .i64 t.int, .string t.str, .slice la t.list.length lc, .slice ma t.map.length mc]] w fun e w' => e = .returned (.agg #[.string k, .int .i64 t.kind, .bool t.bool, .int .i64 t.int, .string t.str, .slice la t.list.length lc, .slice ma t.map.length mc]) ∧ Below w.heap.size w w' := by
  go_enter Try.func18, Try.ntmps18
  go_wp2_with fail
  exact ret_cell rfl rfl (Blk.new_at (w.alloc (.cells #[.int .i64 t.kind, .bool t.bool, .int .i64 t.int, .string t.str, .slice la t.list.length lc, .slice ma t.map.length mc] 25)) 38 #[.string k, .int .i64 t.kind, .bool t.bool, .int .i64 t.int, .string t.str, .slice la t.list.length lc, .slice ma t.map.length mc] (n := w.heap.size + 1) (by simp)) Try.underlying38 (by kernel_rfl) rfl ⟨rfl, (Below.new _ _).alloc (by simp) _⟩
end Go.Proofs.Ythkkmnmejciomaa

/- The third document's example answers true. -/
namespace Go.Proofs.Ythkkmnmejciomaa
open Go.RowKit
attribute [local go_sem ↓] Go.wp_at_zero Go.wp_at_succ


theorem neat_tI (n : Nat) (k : Int) : Neat n (tI k) := .mk (parts_iff.2 ⟨by simp [T.bareB, tI, T.kind, T.bool, T.int, T.str, T.list, T.map, ByteArray.toList_eq], by show textB ⟨#[]⟩ = true; decide +kernel, by simp [tI, T.list], by simp [tI, T.map], KS.nil⟩) (by simp [tI, T.map]) (by simp [tI, T.map])
def aw3c : List (ByteArray × T) := [(⟨#[99]⟩, tI 2)]
def aw3d : List (ByteArray × T) := [(⟨#[100]⟩, tI 3)]
def aw3A : List (ByteArray × T) := [(⟨#[97]⟩, tI 1), (⟨#[98]⟩, mkMap aw3c)]
def aw3B : List (ByteArray × T) := [(⟨#[97]⟩, T.zero), (⟨#[98]⟩, mkMap aw3d)]
def aw3x : List (ByteArray × T) := [(⟨#[99]⟩, tI 2), (⟨#[100]⟩, tI 3)]
def aw3V : List (ByteArray × T) := [(⟨#[98]⟩, mkMap aw3x)]
theorem aw3_ab : klt ⟨#[97]⟩ ⟨#[98]⟩ = true := by simp [klt, ByteArray.toList_eq, Op.bytesLess]
theorem aw3_cd : klt ⟨#[99]⟩ ⟨#[100]⟩ = true := by simp [klt, ByteArray.toList_eq, Op.bytesLess]
theorem KS_one (p : ByteArray × T) : KS [p] := KS_cons KS.nil (by simp)
theorem KS_two {p q : ByteArray × T} (h : klt p.1 q.1 = true) : KS [p, q] := KS_cons (KS_one q) (by simp [h])
theorem aw3_KA : KS aw3A := KS_two aw3_ab
theorem aw3_KB : KS aw3B := KS_two aw3_ab
theorem aw3_nA : Neat 2 (mkMap aw3A) := by
  refine Neat.mkMap aw3_KA (by simp [aw3A]) ?_
  simp only [aw3A, List.mem_cons, List.not_mem_nil, or_false]
  rintro p (rfl | rfl)
  · exact ⟨by decide +kernel, neat_tI _ _⟩
  · refine ⟨by decide +kernel, Neat.mkMap (KS_one _) (by simp [aw3c]) ?_⟩
    simp only [aw3c, List.mem_cons, List.not_mem_nil, or_false]
    rintro p rfl
    exact ⟨by decide +kernel, neat_tI _ _⟩
theorem aw3_nB : Neat 2 (mkMap aw3B) := by
  refine Neat.mkMap aw3_KB (by simp [aw3B]) ?_
  simp only [aw3B, List.mem_cons, List.not_mem_nil, or_false]
  rintro p (rfl | rfl)
  · exact ⟨by decide +kernel, Neat.zero⟩
  · refine ⟨by decide +kernel, Neat.mkMap (KS_one _) (by simp [aw3d]) ?_⟩
    simp only [aw3d, List.mem_cons, List.not_mem_nil, or_false]
    rintro p rfl
    exact ⟨by decide +kernel, neat_tI _ _⟩
theorem aw3_over : (mkMap aw3B).over (mkMap aw3A) = mkMap aw3V := by
  rw [over_eq, if_pos ⟨rfl, rfl⟩, show (mkMap aw3B).map = aw3B from rfl, aw3B, T.overM, T.overM, T.overM, overP_eq, overP_eq, if_pos (show T.zero.kind = 0 from rfl), if_neg (show ¬ (mkMap aw3d).kind = 0 by simp [mkMap, T.kind]), dropT_mk]
  have e : del aw3A ⟨#[97]⟩ = [(⟨#[98]⟩, mkMap aw3c)] := by simp [del, aw3A]
  have e2 : (mkMap aw3d).over (mkMap aw3c) = mkMap aw3x := by
    rw [over_eq, if_pos ⟨rfl, rfl⟩, show (mkMap aw3d).map = aw3d from rfl, aw3d, T.overM, T.overM, overP_eq, if_neg (show ¬ (tI 3).kind = 0 by simp [tI, T.kind]), getT_mk, putT_mk (show KS aw3c from KS_one _), over_strip (by simp [tI, T.kind]), strip_eq, if_neg (by simp [tI, T.kind]), aw3c, ins, if_pos aw3_cd]
    rfl
  rw [e, getT_mk, putT_mk (KS_one _), look, if_pos rfl, Option.getD_some, e2, ins, if_neg (by simp [klt_irrefl]), if_pos rfl]
  rfl
theorem tmap_is {l l' : List (ByteArray × T)} (e : mapT l = l') (a : Option Addr) (cc : Nat) (w : World) (h : RepM w (fun _ => True) a l) (hl : l.length * 104 ≤ 140737488355328) :
    Calls Try.prog 17 #[.slice a l.length cc] w (NewPost w (mkMap l')) := e ▸ tmap l a cc w _ h hl

set_option maxRecDepth 100000 in
set_option maxHeartbeats 8000000 in
theorem awake3 (w : World) : Calls Try.prog 5 #[] w fun e w' => e = .returned (.bool true) ∧ Below w.heap.size w w' := by
  go_enter Try.func5, Try.ntmps5
  go_wp2_with fail
  refine (tint' 1 (by unfold i64ok; omega) _).mono ?_
  rintro e w1 ⟨v1, rfl, hr, hb⟩
  obtain ⟨qa1, qc1, qm1, qn1, rfl, -⟩ := hr.inv
  have N1 := Lib.hid (hr.any)
  clear hr
  have HD1 := Lib.hid (show Below w.heap.size w w1 from hb)
  have HW1 := Lib.hid (show Below w.heap.size w w1 from HD1.out)
  clear hb HD1
  go_wp2_with fail
  refine (tpair ⟨#[97]⟩ (tI 1) qa1 qc1 qm1 qn1 _).mono ?_
  rintro e w2 ⟨rfl, hb⟩
  have HD2 := Lib.hid (show Below w1.heap.size w1 w2 from hb)
  have V2_i1 := Lib.hid (N1.out.keep HD2.out)
  have HW2 := Lib.hid (Below.next HW1.out HD2.out)
  clear hb HD2 N1 HW1
  go_wp2_with fail
  refine (tint' 2 (by unfold i64ok; omega) _).mono ?_
  rintro e w3 ⟨v3, rfl, hr, hb⟩
  obtain ⟨qa3, qc3, qm3, qn3, rfl, -⟩ := hr.inv
  have N3 := Lib.hid (hr.any)
  clear hr
  have HD3 := Lib.hid (show Below w2.heap.size w2 w3 from hb)
  have V3_i1 := Lib.hid (V2_i1.out.keep HD3.out)
  have HW3 := Lib.hid (Below.next HW2.out HD3.out)
  clear hb HD3 V2_i1 HW2
  go_wp2_with fail
  refine (tpair ⟨#[99]⟩ (tI 2) qa3 qc3 qm3 qn3 _).mono ?_
  rintro e w4 ⟨rfl, hb⟩
  have HD4 := Lib.hid (show Below w3.heap.size w3 w4 from hb)
  have V4_i1 := Lib.hid (V3_i1.out.keep HD4.out)
  have V4_i2 := Lib.hid (N3.out.keep HD4.out)
  have HW4 := Lib.hid (Below.next HW3.out HD4.out)
  clear hb HD4 V3_i1 N3 HW3
  go_wp2_with fail
  refine (tmap_is (l := [(⟨#[99]⟩, (tI 2))]) (l' := aw3c) (mapT_self (by exact KS_one _)) (some ⟨w4.heap.size, 0, none⟩) 1 _ (repE_M.1 (rep_block (E := eltP) (S := fun _ => True) (l := [(⟨#[99]⟩, (tI 2))]) [[.string ⟨#[99]⟩, .int .i64 (tI 2).kind, .bool (tI 2).bool, .int .i64 (tI 2).int, .string (tI 2).str, .slice qa3 (tI 2).list.length qc3, .slice qm3 (tI 2).map.length qn3]] (Blk.new_at w4 38 #[.string ⟨#[99]⟩, .int .i64 (tI 2).kind, .bool (tI 2).bool, .int .i64 (tI 2).int, .string (tI 2).str, .slice qa3 (tI 2).list.length qc3, .slice qm3 (tI 2).map.length qn3] (n := w4.heap.size) (by simp)) rfl trivial ⟨⟨_, rfl, by decide, (V4_i2.out.keep (by exact Below.new _ _))⟩, trivial⟩)) (by simp)).mono ?_
  rintro e w5 ⟨v5, rfl, hr, hb⟩
  obtain ⟨qa5, qc5, qm5, qn5, rfl, -⟩ := hr.inv
  have N5 := Lib.hid (hr.any)
  clear hr
  have HD5 := Lib.hid (show Below w4.heap.size w4 w5 from Below.next (Below.new _ _) hb)
  have V5_i1 := Lib.hid (V4_i1.out.keep HD5.out)
  have V5_i2 := Lib.hid (V4_i2.out.keep HD5.out)
  have HW5 := Lib.hid (Below.next HW4.out HD5.out)
  clear hb HD5 V4_i1 V4_i2 HW4
  go_wp2_with fail
  refine (tpair ⟨#[98]⟩ (mkMap aw3c) qa5 qc5 qm5 qn5 _).mono ?_
  rintro e w6 ⟨rfl, hb⟩
  have HD6 := Lib.hid (show Below w5.heap.size w5 w6 from hb)
  have V6_i1 := Lib.hid (V5_i1.out.keep HD6.out)
  have V6_i2 := Lib.hid (V5_i2.out.keep HD6.out)
  have V6_mc := Lib.hid (N5.out.keep HD6.out)
  have HW6 := Lib.hid (Below.next HW5.out HD6.out)
  clear hb HD6 V5_i1 V5_i2 N5 HW5
  go_wp2_with fail
  refine (tmap_is (l := [(⟨#[97]⟩, (tI 1)), (⟨#[98]⟩, (mkMap aw3c))]) (l' := aw3A) (mapT_self (by exact KS_two aw3_ab)) (some ⟨w6.heap.size, 0, none⟩) 2 _ (repE_M.1 (rep_block (E := eltP) (S := fun _ => True) (l := [(⟨#[97]⟩, (tI 1)), (⟨#[98]⟩, (mkMap aw3c))]) [[.string ⟨#[97]⟩, .int .i64 (tI 1).kind, .bool (tI 1).bool, .int .i64 (tI 1).int, .string (tI 1).str, .slice qa1 (tI 1).list.length qc1, .slice qm1 (tI 1).map.length qn1], [.string ⟨#[98]⟩, .int .i64 (mkMap aw3c).kind, .bool (mkMap aw3c).bool, .int .i64 (mkMap aw3c).int, .string (mkMap aw3c).str, .slice qa5 (mkMap aw3c).list.length qc5, .slice qm5 (mkMap aw3c).map.length qn5]] (Blk.new_at w6 38 #[.string ⟨#[97]⟩, .int .i64 (tI 1).kind, .bool (tI 1).bool, .int .i64 (tI 1).int, .string (tI 1).str, .slice qa1 (tI 1).list.length qc1, .slice qm1 (tI 1).map.length qn1, .string ⟨#[98]⟩, .int .i64 (mkMap aw3c).kind, .bool (mkMap aw3c).bool, .int .i64 (mkMap aw3c).int, .string (mkMap aw3c).str, .slice qa5 (mkMap aw3c).list.length qc5, .slice qm5 (mkMap aw3c).map.length qn5] (n := w6.heap.size) (by simp)) rfl trivial ⟨⟨_, rfl, by decide, (V6_i1.out.keep (by exact Below.new _ _))⟩, ⟨_, rfl, by decide, (V6_mc.out.keep (by exact Below.new _ _))⟩, trivial⟩)) (by simp)).mono ?_
  rintro e w7 ⟨v7, rfl, hr, hb⟩
  obtain ⟨qa7, qc7, qm7, qn7, rfl, -⟩ := hr.inv
  have N7 := Lib.hid (hr.any)
  clear hr
  have HD7 := Lib.hid (show Below w6.heap.size w6 w7 from Below.next (Below.new _ _) hb)
  have V7_i1 := Lib.hid (V6_i1.out.keep HD7.out)
  have V7_i2 := Lib.hid (V6_i2.out.keep HD7.out)
  have V7_mc := Lib.hid (V6_mc.out.keep HD7.out)
  have HW7 := Lib.hid (Below.next HW6.out HD7.out)
  clear hb HD7 V6_i1 V6_i2 V6_mc HW6
  go_wp2_with fail
  refine (tnull _).mono ?_
  rintro e w8 ⟨v8, rfl, hr, hb⟩
  obtain ⟨qa8, qc8, qm8, qn8, rfl, -⟩ := hr.inv
  have N8 := Lib.hid (hr.any)
  clear hr
  have HD8 := Lib.hid (show Below w7.heap.size w7 w8 from Below.next (Below.new _ _) hb)
  have L8_0 := Lib.hid ((Blk.new w7 25 #[.int .i64 (mkMap aw3A).kind, .bool (mkMap aw3A).bool, .int .i64 (mkMap aw3A).int, .string (mkMap aw3A).str, .slice qa7 (mkMap aw3A).list.length qc7, .slice qm7 (mkMap aw3A).map.length qn7]).keep hb)
  have V8_i1 := Lib.hid (V7_i1.out.keep HD8.out)
  have V8_i2 := Lib.hid (V7_i2.out.keep HD8.out)
  have V8_mc := Lib.hid (V7_mc.out.keep HD8.out)
  have V8_A := Lib.hid (N7.out.keep HD8.out)
  have HW8 := Lib.hid (Below.next HW7.out HD8.out)
  clear hb HD8 V7_i1 V7_i2 V7_mc N7 HW7
  have k8_0 := L8_0.out.cell
  have l8_0 := L8_0.out.lt
  go_wp2_with fail
  refine (tpair ⟨#[97]⟩ T.zero qa8 qc8 qm8 qn8 _).mono ?_
  rintro e w9 ⟨rfl, hb⟩
  have HD9 := Lib.hid (show Below w8.heap.size w8 w9 from hb)
  have L9_0 := Lib.hid (L8_0.out.keep HD9.out)
  have V9_i1 := Lib.hid (V8_i1.out.keep HD9.out)
  have V9_i2 := Lib.hid (V8_i2.out.keep HD9.out)
  have V9_mc := Lib.hid (V8_mc.out.keep HD9.out)
  have V9_A := Lib.hid (V8_A.out.keep HD9.out)
  have V9_z := Lib.hid (N8.out.keep HD9.out)
  have HW9 := Lib.hid (Below.next HW8.out HD9.out)
  clear k8_0 l8_0 hb HD9 L8_0 V8_i1 V8_i2 V8_mc V8_A N8 HW8
  have k9_0 := L9_0.out.cell
  have l9_0 := L9_0.out.lt
  go_wp2_with fail
  refine (tint' 3 (by unfold i64ok; omega) _).mono ?_
  rintro e w10 ⟨v10, rfl, hr, hb⟩
  obtain ⟨qa10, qc10, qm10, qn10, rfl, -⟩ := hr.inv
  have N10 := Lib.hid (hr.any)
  clear hr
  have HD10 := Lib.hid (show Below w9.heap.size w9 w10 from hb)
  have L10_0 := Lib.hid (L9_0.out.keep HD10.out)
  have V10_i1 := Lib.hid (V9_i1.out.keep HD10.out)
  have V10_i2 := Lib.hid (V9_i2.out.keep HD10.out)
  have V10_mc := Lib.hid (V9_mc.out.keep HD10.out)
  have V10_A := Lib.hid (V9_A.out.keep HD10.out)
  have V10_z := Lib.hid (V9_z.out.keep HD10.out)
  have HW10 := Lib.hid (Below.next HW9.out HD10.out)
  clear k9_0 l9_0 hb HD10 L9_0 V9_i1 V9_i2 V9_mc V9_A V9_z HW9
  have k10_0 := L10_0.out.cell
  have l10_0 := L10_0.out.lt
  go_wp2_with fail
  refine (tpair ⟨#[100]⟩ (tI 3) qa10 qc10 qm10 qn10 _).mono ?_
  rintro e w11 ⟨rfl, hb⟩
  have HD11 := Lib.hid (show Below w10.heap.size w10 w11 from hb)
  have L11_0 := Lib.hid (L10_0.out.keep HD11.out)
  have V11_i1 := Lib.hid (V10_i1.out.keep HD11.out)
  have V11_i2 := Lib.hid (V10_i2.out.keep HD11.out)
  have V11_mc := Lib.hid (V10_mc.out.keep HD11.out)
  have V11_A := Lib.hid (V10_A.out.keep HD11.out)
  have V11_z := Lib.hid (V10_z.out.keep HD11.out)
  have V11_i3 := Lib.hid (N10.out.keep HD11.out)
  have HW11 := Lib.hid (Below.next HW10.out HD11.out)
  clear k10_0 l10_0 hb HD11 L10_0 V10_i1 V10_i2 V10_mc V10_A V10_z N10 HW10
  have k11_0 := L11_0.out.cell
  have l11_0 := L11_0.out.lt
  go_wp2_with fail
  refine (tmap_is (l := [(⟨#[100]⟩, (tI 3))]) (l' := aw3d) (mapT_self (by exact KS_one _)) (some ⟨w11.heap.size, 0, none⟩) 1 _ (repE_M.1 (rep_block (E := eltP) (S := fun _ => True) (l := [(⟨#[100]⟩, (tI 3))]) [[.string ⟨#[100]⟩, .int .i64 (tI 3).kind, .bool (tI 3).bool, .int .i64 (tI 3).int, .string (tI 3).str, .slice qa10 (tI 3).list.length qc10, .slice qm10 (tI 3).map.length qn10]] (Blk.new_at w11 38 #[.string ⟨#[100]⟩, .int .i64 (tI 3).kind, .bool (tI 3).bool, .int .i64 (tI 3).int, .string (tI 3).str, .slice qa10 (tI 3).list.length qc10, .slice qm10 (tI 3).map.length qn10] (n := w11.heap.size) (by simp)) rfl trivial ⟨⟨_, rfl, by decide, (V11_i3.out.keep (by exact Below.new _ _))⟩, trivial⟩)) (by simp)).mono ?_
  rintro e w12 ⟨v12, rfl, hr, hb⟩
  obtain ⟨qa12, qc12, qm12, qn12, rfl, -⟩ := hr.inv
  have N12 := Lib.hid (hr.any)
  clear hr
  have HD12 := Lib.hid (show Below w11.heap.size w11 w12 from Below.next (Below.new _ _) hb)
  have L12_0 := Lib.hid (L11_0.out.keep HD12.out)
  have V12_i1 := Lib.hid (V11_i1.out.keep HD12.out)
  have V12_i2 := Lib.hid (V11_i2.out.keep HD12.out)
  have V12_mc := Lib.hid (V11_mc.out.keep HD12.out)
  have V12_A := Lib.hid (V11_A.out.keep HD12.out)
  have V12_z := Lib.hid (V11_z.out.keep HD12.out)
  have V12_i3 := Lib.hid (V11_i3.out.keep HD12.out)
  have HW12 := Lib.hid (Below.next HW11.out HD12.out)
  clear k11_0 l11_0 hb HD12 L11_0 V11_i1 V11_i2 V11_mc V11_A V11_z V11_i3 HW11
  have k12_0 := L12_0.out.cell
  have l12_0 := L12_0.out.lt
  go_wp2_with fail
  refine (tpair ⟨#[98]⟩ (mkMap aw3d) qa12 qc12 qm12 qn12 _).mono ?_
  rintro e w13 ⟨rfl, hb⟩
  have HD13 := Lib.hid (show Below w12.heap.size w12 w13 from hb)
  have L13_0 := Lib.hid (L12_0.out.keep HD13.out)
  have V13_i1 := Lib.hid (V12_i1.out.keep HD13.out)
  have V13_i2 := Lib.hid (V12_i2.out.keep HD13.out)
  have V13_mc := Lib.hid (V12_mc.out.keep HD13.out)
  have V13_A := Lib.hid (V12_A.out.keep HD13.out)
  have V13_z := Lib.hid (V12_z.out.keep HD13.out)
  have V13_i3 := Lib.hid (V12_i3.out.keep HD13.out)
  have V13_md := Lib.hid (N12.out.keep HD13.out)
  have HW13 := Lib.hid (Below.next HW12.out HD13.out)
  clear k12_0 l12_0 hb HD13 L12_0 V12_i1 V12_i2 V12_mc V12_A V12_z V12_i3 N12 HW12
  have k13_0 := L13_0.out.cell
  have l13_0 := L13_0.out.lt
  go_wp2_with fail
  refine (tmap_is (l := [(⟨#[97]⟩, T.zero), (⟨#[98]⟩, (mkMap aw3d))]) (l' := aw3B) (mapT_self (by exact KS_two aw3_ab)) (some ⟨w13.heap.size, 0, none⟩) 2 _ (repE_M.1 (rep_block (E := eltP) (S := fun _ => True) (l := [(⟨#[97]⟩, T.zero), (⟨#[98]⟩, (mkMap aw3d))]) [[.string ⟨#[97]⟩, .int .i64 T.zero.kind, .bool T.zero.bool, .int .i64 T.zero.int, .string T.zero.str, .slice qa8 T.zero.list.length qc8, .slice qm8 T.zero.map.length qn8], [.string ⟨#[98]⟩, .int .i64 (mkMap aw3d).kind, .bool (mkMap aw3d).bool, .int .i64 (mkMap aw3d).int, .string (mkMap aw3d).str, .slice qa12 (mkMap aw3d).list.length qc12, .slice qm12 (mkMap aw3d).map.length qn12]] (Blk.new_at w13 38 #[.string ⟨#[97]⟩, .int .i64 T.zero.kind, .bool T.zero.bool, .int .i64 T.zero.int, .string T.zero.str, .slice qa8 T.zero.list.length qc8, .slice qm8 T.zero.map.length qn8, .string ⟨#[98]⟩, .int .i64 (mkMap aw3d).kind, .bool (mkMap aw3d).bool, .int .i64 (mkMap aw3d).int, .string (mkMap aw3d).str, .slice qa12 (mkMap aw3d).list.length qc12, .slice qm12 (mkMap aw3d).map.length qn12] (n := w13.heap.size) (by simp)) rfl trivial ⟨⟨_, rfl, by decide, (V13_z.out.keep (by exact Below.new _ _))⟩, ⟨_, rfl, by decide, (V13_md.out.keep (by exact Below.new _ _))⟩, trivial⟩)) (by simp)).mono ?_
  rintro e w14 ⟨v14, rfl, hr, hb⟩
  obtain ⟨qa14, qc14, qm14, qn14, rfl, -⟩ := hr.inv
  have N14 := Lib.hid (hr.any)
  clear hr
  have HD14 := Lib.hid (show Below w13.heap.size w13 w14 from Below.next (Below.new _ _) hb)
  have L14_0 := Lib.hid (L13_0.out.keep HD14.out)
  have V14_i1 := Lib.hid (V13_i1.out.keep HD14.out)
  have V14_i2 := Lib.hid (V13_i2.out.keep HD14.out)
  have V14_mc := Lib.hid (V13_mc.out.keep HD14.out)
  have V14_A := Lib.hid (V13_A.out.keep HD14.out)
  have V14_z := Lib.hid (V13_z.out.keep HD14.out)
  have V14_i3 := Lib.hid (V13_i3.out.keep HD14.out)
  have V14_md := Lib.hid (V13_md.out.keep HD14.out)
  have HW14 := Lib.hid (Below.next HW13.out HD14.out)
  clear k13_0 l13_0 hb HD14 L13_0 V13_i1 V13_i2 V13_mc V13_A V13_z V13_i3 V13_md HW13
  have k14_0 := L14_0.out.cell
  have l14_0 := L14_0.out.lt
  go_wp2_with fail
  refine (tover (na := 2) (nb := 2) (by omega) (mkMap aw3B) (mkMap aw3A) aw3_nA aw3_nB _ _ _ _ _ (V14_A.out.keep (by exact Below.new _ _)) (N14.out.keep (by exact Below.new _ _))).mono ?_
  rw [aw3_over]
  rintro e w15 ⟨v15, rfl, hr, hb⟩
  obtain ⟨qa15, qc15, qm15, qn15, rfl, -⟩ := hr.inv
  have N15 := Lib.hid (hr.any)
  clear hr
  have HD15 := Lib.hid (show Below w14.heap.size w14 w15 from Below.next (Below.new _ _) hb)
  have L15_0 := Lib.hid (L14_0.out.keep HD15.out)
  have L15_1 := Lib.hid ((Blk.new w14 25 #[.int .i64 (mkMap aw3B).kind, .bool (mkMap aw3B).bool, .int .i64 (mkMap aw3B).int, .string (mkMap aw3B).str, .slice qa14 (mkMap aw3B).list.length qc14, .slice qm14 (mkMap aw3B).map.length qn14]).keep hb)
  have V15_i1 := Lib.hid (V14_i1.out.keep HD15.out)
  have V15_i2 := Lib.hid (V14_i2.out.keep HD15.out)
  have V15_mc := Lib.hid (V14_mc.out.keep HD15.out)
  have V15_A := Lib.hid (V14_A.out.keep HD15.out)
  have V15_z := Lib.hid (V14_z.out.keep HD15.out)
  have V15_i3 := Lib.hid (V14_i3.out.keep HD15.out)
  have V15_md := Lib.hid (V14_md.out.keep HD15.out)
  have V15_B := Lib.hid (N14.out.keep HD15.out)
  have HW15 := Lib.hid (Below.next HW14.out HD15.out)
  clear k14_0 l14_0 hb HD15 L14_0 V14_i1 V14_i2 V14_mc V14_A V14_z V14_i3 V14_md N14 HW14
  have k15_0 := L15_0.out.cell
  have l15_0 := L15_0.out.lt
  have k15_1 := L15_1.out.cell
  have l15_1 := L15_1.out.lt
  go_wp2_with fail
  refine (tget_some (x := mkMap aw3x) (by rw [getT_mk, aw3V, look, if_pos rfl]) _ _ _ (N15.out.keep (by exact Below.new _ _)) (KS_one _)).mono ?_
  rintro e w16 ⟨v16, rfl, hr, hb⟩
  obtain ⟨qa16, qc16, qm16, qn16, rfl, -⟩ := hr.inv
  have N16 := Lib.hid (hr.any)
  clear hr
  have HD16 := Lib.hid (show Below w15.heap.size w15 w16 from Below.next (Below.new _ _) hb)
  have L16_0 := Lib.hid (L15_0.out.keep HD16.out)
  have L16_1 := Lib.hid (L15_1.out.keep HD16.out)
  have L16_2 := Lib.hid ((Blk.new w15 25 #[.int .i64 (mkMap aw3V).kind, .bool (mkMap aw3V).bool, .int .i64 (mkMap aw3V).int, .string (mkMap aw3V).str, .slice qa15 (mkMap aw3V).list.length qc15, .slice qm15 (mkMap aw3V).map.length qn15]).keep hb)
  have V16_i1 := Lib.hid (V15_i1.out.keep HD16.out)
  have V16_i2 := Lib.hid (V15_i2.out.keep HD16.out)
  have V16_mc := Lib.hid (V15_mc.out.keep HD16.out)
  have V16_A := Lib.hid (V15_A.out.keep HD16.out)
  have V16_z := Lib.hid (V15_z.out.keep HD16.out)
  have V16_i3 := Lib.hid (V15_i3.out.keep HD16.out)
  have V16_md := Lib.hid (V15_md.out.keep HD16.out)
  have V16_B := Lib.hid (V15_B.out.keep HD16.out)
  have V16_V := Lib.hid (N15.out.keep HD16.out)
  have HW16 := Lib.hid (Below.next HW15.out HD16.out)
  clear k15_0 l15_0 k15_1 l15_1 hb HD16 L15_0 L15_1 V15_i1 V15_i2 V15_mc V15_A V15_z V15_i3 V15_md V15_B N15 HW15
  have k16_0 := L16_0.out.cell
  have l16_0 := L16_0.out.lt
  have k16_1 := L16_1.out.cell
  have l16_1 := L16_1.out.lt
  have k16_2 := L16_2.out.cell
  have l16_2 := L16_2.out.lt
  have e1 : (mkMap aw3V).map.length = 1 := rfl
  have e2 : (mkMap aw3x).map.length = 2 := rfl
  go_wp2_with fail
  go_ret
  exact ⟨rfl, Below.next HW16.out (Below.new _ _)⟩

end Go.Proofs.Ythkkmnmejciomaa

