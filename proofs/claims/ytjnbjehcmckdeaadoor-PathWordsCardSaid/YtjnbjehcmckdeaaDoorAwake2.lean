/- The second document's example answers true. -/
import Derived.Test.YtjnbjehcmckdeaaDoorPath
import Derived.Test.YtjnbjehcmckdeaaDoorText
import Derived.Test.YtjnbjehcmckdeaaDoorMake
import Derived.Deep.RegionHeld3
import Derived.Deep.DrawnRows
namespace Go.Proofs.YtjnbjehcmckdeaaDoor
open Go.RowKit
attribute [local go_sem ↓] Go.wp_at_zero Go.wp_at_succ

theorem pruneP_step' (s u : ByteArray) (r : List ByteArray) (v : T) (h : getP (s :: u :: r) v ≠ none) : pruneP (s :: u :: r) v = if (pruneP (u :: r) ((getT v s).getD T.zero)).map = [] then dropT v s else putT v s (pruneP (u :: r) ((getT v s).getD T.zero)) := by
  rw [pruneP]
  · rw [if_neg h]
  · simp
theorem rep_texts' {w : World} {g ty : Nat} {l : List ByteArray} {cs : Array Value} (h : Blk w g ty cs) (hc : cs = (l.map Value.string).toArray) (hz : ∀ s ∈ l, s.size ≤ 140737488351232) : RepS w (fun _ => True) (some ⟨g, 0, none⟩) l := fun i hi => by
  refine ⟨g, 0, rfl, trivial, h.lt, ?_, hz _ (List.getElem_mem hi)⟩
  rw [h.cell, hc, Nat.zero_add]
  simp [hi]

theorem neat_tJ (n : Nat) (k : Int) : Neat n (tI k) := .mk (parts_iff.2 ⟨by simp [T.bareB, tI, T.kind, T.bool, T.int, T.str, T.list, T.map, ByteArray.toList_eq], by show textB ⟨#[]⟩ = true; decide +kernel, by simp [tI, T.list], by simp [tI, T.map], KS.nil⟩) (by simp [tI, T.map]) (by simp [tI, T.map])
def aw2l : List ByteArray := [⟨#[97]⟩, ⟨#[98]⟩]
def aw2V : T := mkMap [(⟨#[97]⟩, mkMap [(⟨#[98]⟩, tI 3)])]
theorem aw2_put : putP aw2l (tI 3) T.zero = aw2V := by
  have e1 : (getT T.zero ⟨#[97]⟩).getD T.zero = T.zero := by rw [getT_look (Neat.zero (n := 0))]; rfl
  rw [aw2l, putP, e1, putP, putP, putT_ins (Neat.zero (n := 0)), putT_ins (Neat.zero (n := 0))]
  rfl
theorem aw2_keys : ∀ s ∈ aw2l, keyB s = true := by
  intro s hs
  simp only [aw2l, List.mem_cons, List.not_mem_nil, or_false] at hs
  rcases hs with rfl | rfl <;> decide +kernel
theorem aw2_size : ∀ s ∈ aw2l, s.size ≤ 140737488351232 := by
  intro s hs
  simp only [aw2l, List.mem_cons, List.not_mem_nil, or_false] at hs
  rcases hs with rfl | rfl <;> decide
theorem aw2_neat : Neat 2 aw2V := aw2_put ▸ putP_neat (n := 0) aw2_keys Neat.zero (neat_tJ 2 3) (by omega)
theorem aw2_get : getP aw2l aw2V = some (tI 3) := by
  rw [aw2l, getP, aw2V, getT_mk, look, if_pos rfl, Option.bind_some, getP, getT_mk, look, if_pos rfl, Option.bind_some, getP]
theorem aw2_prune : pruneW aw2l aw2V = mkMap [] := by
  rw [prune_one aw2_neat, aw2l, pruneP_step' _ _ _ _ (by have := aw2_get; rw [aw2l] at this; rw [this]; simp)]
  have e1 : (getT aw2V ⟨#[97]⟩).getD T.zero = mkMap [(⟨#[98]⟩, tI 3)] := by rw [aw2V, getT_mk, look, if_pos rfl, Option.getD_some]
  have e2 : pruneP [⟨#[98]⟩] (mkMap [(⟨#[98]⟩, tI 3)]) = mkMap [] := by
    rw [pruneP, if_neg (by rw [getP, getT_mk, look, if_pos rfl, Option.bind_some, getP]; simp), dropT_mk]
    simp [del]
  rw [e1, e2, if_pos (show (mkMap []).map = [] from rfl), aw2V, dropT_mk]
  simp [del]

set_option maxRecDepth 100000 in
set_option maxHeartbeats 2000000 in
theorem awake2 (w : World) : Calls Tryd.prog 41 #[] w fun e w' => e = .returned (.bool true) ∧ Below w.heap.size w w' := by
  have CP := Lib.hid (fun (w : World) (c d : Value) (a : Option Addr) (h0 : RepT w (fun _ => True) c T.zero) (h1 : RepT w (fun _ => True) d (tI 3)) (h2 : RepS w (fun _ => True) a aw2l) => (aw2_put ▸ tpput (n := 0) (m := 2) (by omega) (by omega) aw2l T.zero (tI 3) Neat.zero (neat_tJ _ _) aw2_keys a 2 c d w _ _ h0 h1 h2 (by decide) (by unfold maxLen; omega) : Calls Tryd.prog 79 #[c, d, .slice a 2 2] w (NewPost w aw2V)))
  have CG := Lib.hid (fun (w : World) (c : Value) (a : Option Addr) (h0 : RepT w (fun _ => True) c aw2V) (h2 : RepS w (fun _ => True) a aw2l) => (by have := tpget aw2l aw2V aw2_neat a 2 c w _ h0 h2 (by decide); rw [aw2_get] at this; exact this : Calls Tryd.prog 80 #[c, .slice a 2 2] w (GotB w true (tI 3))))
  have CR := Lib.hid (fun (w : World) (c : Value) (a : Option Addr) (h0 : RepT w (fun _ => True) c aw2V) (h2 : RepS w (fun _ => True) a aw2l) => (aw2_prune ▸ tpprune (by omega) aw2l aw2V aw2_neat a 2 c w _ h0 h2 (by decide) (by decide) (by unfold maxLen; omega) : Calls Tryd.prog 81 #[c, .slice a 2 2] w (NewPost w (mkMap []))))
  go_enter Tryd.func41, Tryd.ntmps41
  go_wp2_with fail
  refine (tnull _).mono ?_
  rintro e w1 ⟨v1, rfl, hr, hb⟩
  obtain ⟨qa1, qc1, qm1, qn1, rfl, -⟩ := hr.inv
  have N1 := Lib.hid (hr.any)
  clear hr
  have HD1 := Lib.hid (show Below w.heap.size w w1 from hb)
  have HW1 := Lib.hid (show Below w.heap.size w w1 from HD1.out)
  clear hb HD1
  go_wp2_with fail
  refine (tint' 3 (by unfold i64ok; omega) _).mono ?_
  rintro e w2 ⟨v2, rfl, hr, hb⟩
  obtain ⟨qa2, qc2, qm2, qn2, rfl, -⟩ := hr.inv
  have N2 := Lib.hid (hr.any)
  clear hr
  have HD2 := Lib.hid (show Below w1.heap.size w1 w2 from hb)
  have V2_z := Lib.hid (N1.out.keep HD2.out)
  have HW2 := Lib.hid (Below.next HW1.out HD2.out)
  clear hb HD2 N1 HW1
  go_wp2_with fail
  refine (CP.out _ _ _ _ (V2_z.out.keep (by exact Below.new _ _)) (N2.out.keep (by exact Below.new _ _)) (rep_texts' (l := aw2l) (Blk.new_at w2 9 #[.string ⟨#[97]⟩, .string ⟨#[98]⟩] (n := w2.heap.size) (by simp)) rfl aw2_size)).mono ?_
  rintro e w3 ⟨v3, rfl, hr, hb⟩
  obtain ⟨qa3, qc3, qm3, qn3, rfl, -⟩ := hr.inv
  have N3 := Lib.hid (hr.any)
  clear hr
  have HD3 := Lib.hid (show Below w2.heap.size w2 w3 from Below.next (Below.new _ _) hb)
  have V3_z := Lib.hid (V2_z.out.keep HD3.out)
  have V3_i3 := Lib.hid (N2.out.keep HD3.out)
  have HW3 := Lib.hid (Below.next HW2.out HD3.out)
  clear hb HD3 V2_z N2 HW2
  go_wp2_with fail
  refine (CG.out _ _ _ (N3.out.keep (by exact (Below.new _ _).alloc (by simp) _)) (rep_texts' (l := aw2l) (Blk.new_at (w3.alloc (.cells #[.int .i64 aw2V.kind, .bool aw2V.bool, .int .i64 aw2V.int, .string aw2V.str, .slice qa3 aw2V.list.length qc3, .slice qm3 aw2V.map.length qn3] 38)) 9 #[.string ⟨#[97]⟩, .string ⟨#[98]⟩] (n := w3.heap.size + 1) (by simp)) rfl aw2_size)).mono ?_
  rintro e w4 ⟨v4, rfl, hr, hb⟩
  obtain ⟨qa4, qc4, qm4, qn4, rfl, -⟩ := hr.inv
  have N4 := Lib.hid (hr.any)
  clear hr
  have HD4 := Lib.hid (show Below w3.heap.size w3 w4 from Below.next ((Below.new _ _).alloc (by simp) _) hb)
  have L4_0 := Lib.hid (((Blk.new w3 38 #[.int .i64 aw2V.kind, .bool aw2V.bool, .int .i64 aw2V.int, .string aw2V.str, .slice qa3 aw2V.list.length qc3, .slice qm3 aw2V.map.length qn3]).alloc (.cells #[.string ⟨#[97]⟩, .string ⟨#[98]⟩] 9)).keep hb)
  have V4_z := Lib.hid (V3_z.out.keep HD4.out)
  have V4_i3 := Lib.hid (V3_i3.out.keep HD4.out)
  have V4_V := Lib.hid (N3.out.keep HD4.out)
  have HW4 := Lib.hid (Below.next HW3.out HD4.out)
  clear hb HD4 V3_z V3_i3 N3 HW3
  have k4_0 := L4_0.out.cell
  have l4_0 := L4_0.out.lt
  go_wp2_with fail
  refine (CR.out _ _ _ (V4_V.out.keep (by exact (Below.new _ _).alloc (by simp) _)) (rep_texts' (l := aw2l) (Blk.new_at (w4.alloc (.cells #[.int .i64 (tI 3).kind, .bool (tI 3).bool, .int .i64 (tI 3).int, .string (tI 3).str, .slice qa4 (tI 3).list.length qc4, .slice qm4 (tI 3).map.length qn4] 38)) 9 #[.string ⟨#[97]⟩, .string ⟨#[98]⟩] (n := w4.heap.size + 1) (by simp)) rfl aw2_size)).mono ?_
  rintro e w5 ⟨v5, rfl, hr, hb⟩
  obtain ⟨qa5, qc5, qm5, qn5, rfl, -⟩ := hr.inv
  have N5 := Lib.hid (hr.any)
  clear hr
  have HD5 := Lib.hid (show Below w4.heap.size w4 w5 from Below.next ((Below.new _ _).alloc (by simp) _) hb)
  have L5_0 := Lib.hid (L4_0.out.keep HD5.out)
  have L5_1 := Lib.hid (((Blk.new w4 38 #[.int .i64 (tI 3).kind, .bool (tI 3).bool, .int .i64 (tI 3).int, .string (tI 3).str, .slice qa4 (tI 3).list.length qc4, .slice qm4 (tI 3).map.length qn4]).alloc (.cells #[.string ⟨#[97]⟩, .string ⟨#[98]⟩] 9)).keep hb)
  have V5_z := Lib.hid (V4_z.out.keep HD5.out)
  have V5_i3 := Lib.hid (V4_i3.out.keep HD5.out)
  have V5_V := Lib.hid (V4_V.out.keep HD5.out)
  have V5_X := Lib.hid (N4.out.keep HD5.out)
  have HW5 := Lib.hid (Below.next HW4.out HD5.out)
  clear k4_0 l4_0 hb HD5 L4_0 V4_z V4_i3 V4_V N4 HW4
  have k5_0 := L5_0.out.cell
  have l5_0 := L5_0.out.lt
  have k5_1 := L5_1.out.cell
  have l5_1 := L5_1.out.lt
  have e1 : (tI 3).int = 3 := rfl
  have e2 : (mkMap []).kind = 5 := rfl
  have e3 : (mkMap []).map.length = 0 := rfl
  go_wp2_with fail
  go_ret
  exact ⟨rfl, Below.next HW5.out (Below.new _ _)⟩

end Go.Proofs.YtjnbjehcmckdeaaDoor
