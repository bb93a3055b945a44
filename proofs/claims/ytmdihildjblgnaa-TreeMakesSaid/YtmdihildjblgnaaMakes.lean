/- TreeMakes answers true for every input. -/
import Derived.Test.YtmdihildjblgnaaAwake
import Derived.Test.YtmdihildjblgnaaTruth
import Derived.Test.YtmdihildjblgnaaPartsT
import Derived.Test.YtmdihildjblgnaaTList
import Derived.Deep.RegionHeld3
import Derived.Deep.DrawnRows
namespace Go.Proofs.Ytmdihildjblgnaa
open Go.RowKit
attribute [local go_sem ↓] Go.wp_at_zero Go.wp_at_succ

/-- The six that are made. -/
def tB (b : Bool) : T := .mk 1 b 0 ⟨#[]⟩ [] []
def tS (s : ByteArray) : T := .mk 3 false 0 s [] []
def six (b : Bool) (n : Int) (s : ByteArray) : List T := [T.zero, tB b, tI n, tS s, mkList [], mkMap []]
def One (t : T) : Prop := t.check = 0 ∧ t.size = 1 ∧ t.depth = 1
theorem one_of {t : T} (hl : t.list = []) (hm : t.map = []) (hb : t.bareB = true) (hs : textB t.str = true) : One t := by
  have h1 : t.size = 1 := by rw [T.size_eq, hl, hm]; simp [T.sizeL, T.sizeM]
  have h2 : t.depth = 1 := by rw [T.depth_eq, hl, hm]; simp [T.depthL, T.depthM]
  refine ⟨?_, h1, h2⟩
  unfold T.check
  rw [h1, h2, if_neg (by omega), if_neg (by omega), T.parts_eq, hb, hs, hl, hm]
  simp [T.partsL, T.partsM]
theorem six_one (b : Bool) (n : Int) {s : ByteArray} (hs : textB s = true) : ∀ t ∈ six b n s, One t := by
  have he : textB ⟨#[]⟩ = true := by simp [textB, ByteArray.size]
  have h0 : (⟨#[]⟩ : ByteArray).toList = [] := by simp [ByteArray.toList_eq]
  intro t ht
  simp only [six, List.mem_cons, List.not_mem_nil, or_false] at ht
  rcases ht with rfl | rfl | rfl | rfl | rfl | rfl
  · exact one_of rfl rfl (by simp [T.bareB, T.zero, T.kind, T.bool, T.int, T.str, T.list, T.map, h0]) he
  · exact one_of rfl rfl (by simp [T.bareB, tB, T.kind, T.bool, T.int, T.str, T.list, T.map, h0]) he
  · exact one_of rfl rfl (by simp [T.bareB, tI, T.kind, T.bool, T.int, T.str, T.list, T.map, h0]) he
  · exact one_of rfl rfl (by simp [T.bareB, tS, T.kind, T.bool, T.int, T.str, T.list, T.map]) hs
  · exact one_of rfl rfl (by simp [T.bareB, mkList, T.kind, T.bool, T.int, T.str, T.list, T.map, h0]) he
  · exact one_of rfl rfl (by simp [T.bareB, mkMap, T.kind, T.bool, T.int, T.str, T.list, T.map, h0]) he
theorem truth_0 : T.zero.truth = false := by simp [T.truth, T.zero, T.bool, T.int, T.str, T.list, T.map, ByteArray.toList_eq]
theorem truth_B (b : Bool) : (tB b).truth = b := by simp [T.truth, tB, T.bool, T.int, T.str, T.list, T.map, ByteArray.toList_eq]
theorem truth_I (n : Int) : (tI n).truth = (n != 0) := by simp [T.truth, tI, T.bool, T.int, T.str, T.list, T.map, ByteArray.toList_eq]
theorem truth_S (s : ByteArray) : (tS s).truth = !s.toList.isEmpty := by simp [T.truth, tS, T.bool, T.int, T.str, T.list, T.map]
theorem truth_L : (mkList []).truth = false := by simp [T.truth, mkList, T.bool, T.int, T.str, T.list, T.map, ByteArray.toList_eq]
theorem truth_M : (mkMap []).truth = false := by simp [T.truth, mkMap, T.bool, T.int, T.str, T.list, T.map, ByteArray.toList_eq]
theorem tlist0 (w : World) : Calls Try.prog 32 #[.slice none 0 0] w (NewPost w (mkList [])) :=
  tlist [] none 0 w (fun _ => True) (fun i hi => by simp at hi) (by simp)
theorem tmap0 (w : World) : Calls Try.prog 29 #[.slice none 0 0] w (NewPost w (mkMap [])) :=
  tmap [] none 0 w (fun _ => True) (fun i hi => by simp at hi) (by simp)

set_option maxRecDepth 100000 in
set_option maxHeartbeats 8000000 in
theorem makes (b : Bool) (n : Int) (s : ByteArray) (w : World) (hn : i64ok n) (hs : s.size ≤ 140737488351232) :
    Calls Try.prog 20 #[.bool b, .int .i64 n, .string s] w fun e w' => e = .returned (.bool true) ∧ Below w.heap.size w w' := by
  have RK := Lib.hid (fun w => rtext s w hs)
  go_enter Try.func20, Try.ntmps20
  by_cases h1 : 1000 < s.size
  · go_wp2_with (go_at_call 24; refine (awake1 _).mono ?_; rintro e w9 ⟨rfl, hb9⟩)
    go_ret
    exact ⟨rfl, hb9⟩
  cases hx : textB s
  · rw [hx] at RK
    clear hx
    go_wp2_with (first | (go_at_call 75; (refine (RK.out _).mono ?_; rintro e w8 ⟨rfl, rfl⟩)) | (go_at_call 24; refine (awake1 _).mono ?_; rintro e w9 ⟨rfl, hb9⟩))
    go_ret
    exact ⟨rfl, hb9⟩
  have HONE := Lib.hid (six_one b n hx)
  rw [hx] at RK
  clear hx
  have C1 := Lib.hid tnull
  have C2 : Hid (∀ w, Calls Try.prog 77 #[.bool b] w (NewPost w (tB b))) := fun w => tbool b w
  have C3 := Lib.hid (tint' n hn)
  have C4 : Hid (∀ w, Calls Try.prog 79 #[.string s] w (NewPost w (tS s))) := fun w => tstr s hs w
  have C5 := Lib.hid tlist0
  have C6 := Lib.hid tmap0
  have D0 : Hid (∀ (w : World) (a : Value), RepT w (fun _ => True) a T.zero → Calls Try.prog 33 #[a] w (fun e w' => e = .returned (.bool false) ∧ Below w.heap.size w w')) := fun w a h => by have := ttruth _ a w _ h; rw [truth_0] at this; exact this
  have D1 : Hid (∀ (w : World) (a : Value), RepT w (fun _ => True) a (tB b) → Calls Try.prog 33 #[a] w (fun e w' => e = .returned (.bool b) ∧ Below w.heap.size w w')) := fun w a h => by have := ttruth _ a w _ h; rw [truth_B b] at this; exact this
  have D2 : Hid (∀ (w : World) (a : Value), RepT w (fun _ => True) a (tI n) → Calls Try.prog 33 #[a] w (fun e w' => e = .returned (.bool (n != 0)) ∧ Below w.heap.size w w')) := fun w a h => by have := ttruth _ a w _ h; rw [truth_I n] at this; exact this
  have D3 : Hid (∀ (w : World) (a : Value), RepT w (fun _ => True) a (tS s) → Calls Try.prog 33 #[a] w (fun e w' => e = .returned (.bool (!s.toList.isEmpty)) ∧ Below w.heap.size w w')) := fun w a h => by have := ttruth _ a w _ h; rw [truth_S s] at this; exact this
  have D4 : Hid (∀ (w : World) (a : Value), RepT w (fun _ => True) a (mkList []) → Calls Try.prog 33 #[a] w (fun e w' => e = .returned (.bool false) ∧ Below w.heap.size w w')) := fun w a h => by have := ttruth _ a w _ h; rw [truth_L] at this; exact this
  have D5 : Hid (∀ (w : World) (a : Value), RepT w (fun _ => True) a (mkMap []) → Calls Try.prog 33 #[a] w (fun e w' => e = .returned (.bool false) ∧ Below w.heap.size w w')) := fun w a h => by have := ttruth _ a w _ h; rw [truth_M] at this; exact this
  go_wp2_with (go_at_call 75; refine (RK.out _).mono ?_; rintro e w8 ⟨rfl, rfl⟩)
  go_wp2_with fail
  refine (C1.out _).mono ?_
  rintro e w1 ⟨v1, rfl, hr, hb⟩
  obtain ⟨qa1, qc1, qm1, qn1, rfl, -⟩ := hr.inv
  have N1 := Lib.hid (hr.any)
  clear hr
  have HD1 := Lib.hid (show Below w.heap.size w w1 from hb)
  have HW1 := Lib.hid (show Below w.heap.size w w1 from HD1.out)
  clear hb HD1
  go_wp2_with fail
  refine (C2.out _).mono ?_
  rintro e w2 ⟨v2, rfl, hr, hb⟩
  obtain ⟨qa2, qc2, qm2, qn2, rfl, -⟩ := hr.inv
  have N2 := Lib.hid (hr.any)
  clear hr
  have HD2 := Lib.hid (show Below w1.heap.size w1 w2 from hb)
  have V2_v0 := Lib.hid (N1.out.keep HD2.out)
  have HW2 := Lib.hid (Below.next HW1.out HD2.out)
  clear hb HD2 N1 HW1
  go_wp2_with fail
  refine (C3.out _).mono ?_
  rintro e w3 ⟨v3, rfl, hr, hb⟩
  obtain ⟨qa3, qc3, qm3, qn3, rfl, -⟩ := hr.inv
  have N3 := Lib.hid (hr.any)
  clear hr
  have HD3 := Lib.hid (show Below w2.heap.size w2 w3 from hb)
  have V3_v0 := Lib.hid (V2_v0.out.keep HD3.out)
  have V3_v1 := Lib.hid (N2.out.keep HD3.out)
  have HW3 := Lib.hid (Below.next HW2.out HD3.out)
  clear hb HD3 V2_v0 N2 HW2
  go_wp2_with fail
  refine (C4.out _).mono ?_
  rintro e w4 ⟨v4, rfl, hr, hb⟩
  obtain ⟨qa4, qc4, qm4, qn4, rfl, -⟩ := hr.inv
  have N4 := Lib.hid (hr.any)
  clear hr
  have HD4 := Lib.hid (show Below w3.heap.size w3 w4 from hb)
  have V4_v0 := Lib.hid (V3_v0.out.keep HD4.out)
  have V4_v1 := Lib.hid (V3_v1.out.keep HD4.out)
  have V4_v2 := Lib.hid (N3.out.keep HD4.out)
  have HW4 := Lib.hid (Below.next HW3.out HD4.out)
  clear hb HD4 V3_v0 V3_v1 N3 HW3
  go_wp2_with fail
  refine (C5.out _).mono ?_
  rintro e w5 ⟨v5, rfl, hr, hb⟩
  obtain ⟨qa5, qc5, qm5, qn5, rfl, -⟩ := hr.inv
  have N5 := Lib.hid (hr.any)
  clear hr
  have HD5 := Lib.hid (show Below w4.heap.size w4 w5 from hb)
  have V5_v0 := Lib.hid (V4_v0.out.keep HD5.out)
  have V5_v1 := Lib.hid (V4_v1.out.keep HD5.out)
  have V5_v2 := Lib.hid (V4_v2.out.keep HD5.out)
  have V5_v3 := Lib.hid (N4.out.keep HD5.out)
  have HW5 := Lib.hid (Below.next HW4.out HD5.out)
  clear hb HD5 V4_v0 V4_v1 V4_v2 N4 HW4
  go_wp2_with fail
  refine (C6.out _).mono ?_
  rintro e w6 ⟨v6, rfl, hr, hb⟩
  obtain ⟨qa6, qc6, qm6, qn6, rfl, -⟩ := hr.inv
  have N6 := Lib.hid (hr.any)
  clear hr
  have HD6 := Lib.hid (show Below w5.heap.size w5 w6 from hb)
  have V6_v0 := Lib.hid (V5_v0.out.keep HD6.out)
  have V6_v1 := Lib.hid (V5_v1.out.keep HD6.out)
  have V6_v2 := Lib.hid (V5_v2.out.keep HD6.out)
  have V6_v3 := Lib.hid (V5_v3.out.keep HD6.out)
  have V6_v4 := Lib.hid (N5.out.keep HD6.out)
  have HW6 := Lib.hid (Below.next HW5.out HD6.out)
  clear hb HD6 V5_v0 V5_v1 V5_v2 V5_v3 N5 HW5
  go_wp2_with fail
  have HROW := Lib.hid (repE_L.1 (rep_block (E := eltV) (S := fun _ => True) (l := six b n s) [[.int .i64 T.zero.kind, .bool T.zero.bool, .int .i64 T.zero.int, .string T.zero.str, .slice qa1 T.zero.list.length qc1, .slice qm1 T.zero.map.length qn1], [.int .i64 (tB b).kind, .bool (tB b).bool, .int .i64 (tB b).int, .string (tB b).str, .slice qa2 (tB b).list.length qc2, .slice qm2 (tB b).map.length qn2], [.int .i64 (tI n).kind, .bool (tI n).bool, .int .i64 (tI n).int, .string (tI n).str, .slice qa3 (tI n).list.length qc3, .slice qm3 (tI n).map.length qn3], [.int .i64 (tS s).kind, .bool (tS s).bool, .int .i64 (tS s).int, .string (tS s).str, .slice qa4 (tS s).list.length qc4, .slice qm4 (tS s).map.length qn4], [.int .i64 (mkList []).kind, .bool (mkList []).bool, .int .i64 (mkList []).int, .string (mkList []).str, .slice qa5 (mkList []).list.length qc5, .slice qm5 (mkList []).map.length qn5], [.int .i64 (mkMap []).kind, .bool (mkMap []).bool, .int .i64 (mkMap []).int, .string (mkMap []).str, .slice qa6 (mkMap []).list.length qc6, .slice qm6 (mkMap []).map.length qn6]] (Blk.new w6 25 #[.int .i64 T.zero.kind, .bool T.zero.bool, .int .i64 T.zero.int, .string T.zero.str, .slice qa1 T.zero.list.length qc1, .slice qm1 T.zero.map.length qn1, .int .i64 (tB b).kind, .bool (tB b).bool, .int .i64 (tB b).int, .string (tB b).str, .slice qa2 (tB b).list.length qc2, .slice qm2 (tB b).map.length qn2, .int .i64 (tI n).kind, .bool (tI n).bool, .int .i64 (tI n).int, .string (tI n).str, .slice qa3 (tI n).list.length qc3, .slice qm3 (tI n).map.length qn3, .int .i64 (tS s).kind, .bool (tS s).bool, .int .i64 (tS s).int, .string (tS s).str, .slice qa4 (tS s).list.length qc4, .slice qm4 (tS s).map.length qn4, .int .i64 (mkList []).kind, .bool (mkList []).bool, .int .i64 (mkList []).int, .string (mkList []).str, .slice qa5 (mkList []).list.length qc5, .slice qm5 (mkList []).map.length qn5, .int .i64 (mkMap []).kind, .bool (mkMap []).bool, .int .i64 (mkMap []).int, .string (mkMap []).str, .slice qa6 (mkMap []).list.length qc6, .slice qm6 (mkMap []).map.length qn6]) rfl trivial ⟨(V6_v0.out.keep (by exact Below.new _ _)), (V6_v1.out.keep (by exact Below.new _ _)), (V6_v2.out.keep (by exact Below.new _ _)), (V6_v3.out.keep (by exact Below.new _ _)), (V6_v4.out.keep (by exact Below.new _ _)), (N6.out.keep (by exact Below.new _ _)), trivial⟩))
  have HWX := Lib.hid (Below.next HW6.out (Below.new w6 (.cells #[.int .i64 T.zero.kind, .bool T.zero.bool, .int .i64 T.zero.int, .string T.zero.str, .slice qa1 T.zero.list.length qc1, .slice qm1 T.zero.map.length qn1, .int .i64 (tB b).kind, .bool (tB b).bool, .int .i64 (tB b).int, .string (tB b).str, .slice qa2 (tB b).list.length qc2, .slice qm2 (tB b).map.length qn2, .int .i64 (tI n).kind, .bool (tI n).bool, .int .i64 (tI n).int, .string (tI n).str, .slice qa3 (tI n).list.length qc3, .slice qm3 (tI n).map.length qn3, .int .i64 (tS s).kind, .bool (tS s).bool, .int .i64 (tS s).int, .string (tS s).str, .slice qa4 (tS s).list.length qc4, .slice qm4 (tS s).map.length qn4, .int .i64 (mkList []).kind, .bool (mkList []).bool, .int .i64 (mkList []).int, .string (mkList []).str, .slice qa5 (mkList []).list.length qc5, .slice qm5 (mkList []).map.length qn5, .int .i64 (mkMap []).kind, .bool (mkMap []).bool, .int .i64 (mkMap []).int, .string (mkMap []).str, .slice qa6 (mkMap []).list.length qc6, .slice qm6 (mkMap []).map.length qn6] 25)))
  have HL6 : Hid ((six b n s).length = 6) := rfl
  generalize six b n s = l at HROW HL6 HONE
  generalize w6.alloc (.cells #[.int .i64 T.zero.kind, .bool T.zero.bool, .int .i64 T.zero.int, .string T.zero.str, .slice qa1 T.zero.list.length qc1, .slice qm1 T.zero.map.length qn1, .int .i64 (tB b).kind, .bool (tB b).bool, .int .i64 (tB b).int, .string (tB b).str, .slice qa2 (tB b).list.length qc2, .slice qm2 (tB b).map.length qn2, .int .i64 (tI n).kind, .bool (tI n).bool, .int .i64 (tI n).int, .string (tI n).str, .slice qa3 (tI n).list.length qc3, .slice qm3 (tI n).map.length qn3, .int .i64 (tS s).kind, .bool (tS s).bool, .int .i64 (tS s).int, .string (tS s).str, .slice qa4 (tS s).list.length qc4, .slice qm4 (tS s).map.length qn4, .int .i64 (mkList []).kind, .bool (mkList []).bool, .int .i64 (mkList []).int, .string (mkList []).str, .slice qa5 (mkList []).list.length qc5, .slice qm5 (mkList []).map.length qn5, .int .i64 (mkMap []).kind, .bool (mkMap []).bool, .int .i64 (mkMap []).int, .string (mkMap []).str, .slice qa6 (mkMap []).list.length qc6, .slice qm6 (mkMap []).map.length qn6] 25) = wx at *
  generalize (some ⟨w6.heap.size, 0, none⟩ : Option Addr) = A at *
  go_loopw [29] (fun i wr => ∃ q : Nat, q ≤ 6 ∧ i = .int .i64 q ∧ Below w.heap.size w wr ∧ Below wx.heap.size wx wr) (fun i _ => 6 - (intOf i).toNat)
  case atStart => exact ⟨0, Nat.zero_le _, rfl, HWX.out, Below.refl _ _⟩
  case round =>
    obtain ⟨j, hj, rfl, hbw, hbx⟩ := hrel
    have HW7 := Lib.hid hbw
    have HBX := Lib.hid hbx
    clear hbw hbx
    by_cases hlt : j < 6
    · have hjl : j < l.length := by rw [HL6.out]; exact hlt
      obtain ⟨bl, ol, la, lc, ma, mc, rfl, -, -, ⟨c0, c1, c2, c3, c4, c5⟩, hr⟩ := (HROW.out.keep HBX.out).at_ hjl
      have HR := Lib.hid hr
      have HO := Lib.hid (HONE.out l[j] (List.getElem_mem _))
      clear hr
      generalize l[j] = t at *
      clear hjl
      have E1 : Hid (∀ (w : World) (a : Value), RepT w (fun _ => True) a t → Calls Try.prog 70 #[a] w (fun e w' => e = .returned (.int .i64 0) ∧ Below w.heap.size w w')) := fun w a h => by have := tcheck t w _ a h (by rw [HO.out.2.1]; omega); rw [HO.out.1] at this; exact this
      have E2 : Hid (∀ (w : World) (a : Value), RepT w (fun _ => True) a t → Calls Try.prog 30 #[a] w (fun e w' => e = .returned (.int .i64 1) ∧ Below w.heap.size w w')) := fun w a h => by have := tsize t w _ a h (by rw [HO.out.2.1]; omega); rw [HO.out.2.1] at this; exact this
      have E3 : Hid (∀ (w : World) (a : Value), RepT w (fun _ => True) a t → Calls Try.prog 31 #[a] w (fun e w' => e = .returned (.int .i64 1) ∧ Below w.heap.size w w')) := fun w a h => by have := tdepth t w _ a h (by rw [HO.out.2.1]; omega); rw [HO.out.2.2] at this; exact this
      go_wp2_with fail
      obtain ⟨w8, hwz⟩ : ∃ x, x = (wr.alloc (.cells #[.int .i64 t.kind, .bool t.bool, .int .i64 t.int, .string t.str, .slice la t.list.length lc, .slice ma t.map.length mc] 25)) := ⟨_, rfl⟩
      have hb : Below (wr.alloc (.cells #[.int .i64 t.kind, .bool t.bool, .int .i64 t.int, .string t.str, .slice la t.list.length lc, .slice ma t.map.length mc] 25)).heap.size (wr.alloc (.cells #[.int .i64 t.kind, .bool t.bool, .int .i64 t.int, .string t.str, .slice la t.list.length lc, .slice ma t.map.length mc] 25)) w8 := by rw [hwz]; exact Below.refl _ _
      rw [← hwz]
      clear hwz
      have HD8 := Lib.hid (show Below wr.heap.size wr w8 from Below.next (Below.new _ _) hb)
      have L8_0 := Lib.hid ((Blk.new wr 25 #[.int .i64 t.kind, .bool t.bool, .int .i64 t.int, .string t.str, .slice la t.list.length lc, .slice ma t.map.length mc]).keep hb)
      have V8_t := Lib.hid (HR.out.keep HD8.out)
      have B8_0 := Lib.hid (Below.next HBX.out HD8.out)
      have HW8 := Lib.hid (Below.next HW7.out HD8.out)
      clear hb HD8 HR HBX HW7
      have k8_0 := L8_0.out.cell
      have l8_0 := L8_0.out.lt
      go_wp2_with fail
      refine (E1.out _ _ (V8_t.out)).mono ?_
      rintro e w9 ⟨rfl, hb⟩
      have HD9 := Lib.hid (show Below w8.heap.size w8 w9 from hb)
      have L9_0 := Lib.hid (L8_0.out.keep HD9.out)
      have V9_t := Lib.hid (V8_t.out.keep HD9.out)
      have B9_0 := Lib.hid (Below.next B8_0.out HD9.out)
      have HW9 := Lib.hid (Below.next HW8.out HD9.out)
      clear k8_0 l8_0 hb HD9 L8_0 V8_t B8_0 HW8
      have k9_0 := L9_0.out.cell
      have l9_0 := L9_0.out.lt
      go_wp2_with fail
      refine (E2.out _ _ (V9_t.out)).mono ?_
      rintro e w10 ⟨rfl, hb⟩
      have HD10 := Lib.hid (show Below w9.heap.size w9 w10 from hb)
      have L10_0 := Lib.hid (L9_0.out.keep HD10.out)
      have V10_t := Lib.hid (V9_t.out.keep HD10.out)
      have B10_0 := Lib.hid (Below.next B9_0.out HD10.out)
      have HW10 := Lib.hid (Below.next HW9.out HD10.out)
      clear k9_0 l9_0 hb HD10 L9_0 V9_t B9_0 HW9
      have k10_0 := L10_0.out.cell
      have l10_0 := L10_0.out.lt
      go_wp2_with fail
      refine (E3.out _ _ (V10_t.out)).mono ?_
      rintro e w11 ⟨rfl, hb⟩
      have HD11 := Lib.hid (show Below w10.heap.size w10 w11 from hb)
      have L11_0 := Lib.hid (L10_0.out.keep HD11.out)
      have V11_t := Lib.hid (V10_t.out.keep HD11.out)
      have B11_0 := Lib.hid (Below.next B10_0.out HD11.out)
      have HW11 := Lib.hid (Below.next HW10.out HD11.out)
      clear k10_0 l10_0 hb HD11 L10_0 V10_t B10_0 HW10
      have k11_0 := L11_0.out.cell
      have l11_0 := L11_0.out.lt
      go_wp2_with fail
      go_roundw
      case rel => exact ⟨j + 1, by omega, by go_num, HW11.out, B11_0.out⟩
      case measure => simp [intOf]; omega
    · obtain rfl : j = 6 := by omega
      clear HROW HONE HL6 HBX
      go_wp2_with fail
      refine (awake1 _).mono ?_
      rintro e w8 ⟨rfl, hb⟩
      have HD8 := Lib.hid (show Below wr.heap.size wr w8 from hb)
      have HW8 := Lib.hid (Below.next HW7.out HD8.out)
      clear hb HD8 HW7
      go_wp2_with fail
      refine (C1.out _).mono ?_
      rintro e w9 ⟨v9, rfl, hr, hb⟩
      obtain ⟨qa9, qc9, qm9, qn9, rfl, -⟩ := hr.inv
      have N9 := Lib.hid (hr.any)
      clear hr
      have HD9 := Lib.hid (show Below w8.heap.size w8 w9 from hb)
      have HW9 := Lib.hid (Below.next HW8.out HD9.out)
      clear hb HD9 HW8
      go_wp2_with fail
      refine (D0.out _ _ (N9.out)).mono ?_
      rintro e w10 ⟨rfl, hb⟩
      have HD10 := Lib.hid (show Below w9.heap.size w9 w10 from hb)
      have V10_u0 := Lib.hid (N9.out.keep HD10.out)
      have HW10 := Lib.hid (Below.next HW9.out HD10.out)
      clear hb HD10 N9 HW9
      clear V10_u0
      go_wp2_with fail
      refine (C2.out _).mono ?_
      rintro e w11 ⟨v11, rfl, hr, hb⟩
      obtain ⟨qa11, qc11, qm11, qn11, rfl, -⟩ := hr.inv
      have N11 := Lib.hid (hr.any)
      clear hr
      have HD11 := Lib.hid (show Below w10.heap.size w10 w11 from hb)
      have HW11 := Lib.hid (Below.next HW10.out HD11.out)
      clear hb HD11 HW10
      go_wp2_with fail
      refine (D1.out _ _ (N11.out)).mono ?_
      rintro e w12 ⟨rfl, hb⟩
      have HD12 := Lib.hid (show Below w11.heap.size w11 w12 from hb)
      have V12_u1 := Lib.hid (N11.out.keep HD12.out)
      have HW12 := Lib.hid (Below.next HW11.out HD12.out)
      clear hb HD12 N11 HW11
      clear V12_u1
      go_wp2_with fail
      refine (C3.out _).mono ?_
      rintro e w13 ⟨v13, rfl, hr, hb⟩
      obtain ⟨qa13, qc13, qm13, qn13, rfl, -⟩ := hr.inv
      have N13 := Lib.hid (hr.any)
      clear hr
      have HD13 := Lib.hid (show Below w12.heap.size w12 w13 from hb)
      have HW13 := Lib.hid (Below.next HW12.out HD13.out)
      clear hb HD13 HW12
      go_wp2_with fail
      refine (D2.out _ _ (N13.out)).mono ?_
      rintro e w14 ⟨rfl, hb⟩
      have HD14 := Lib.hid (show Below w13.heap.size w13 w14 from hb)
      have V14_u2 := Lib.hid (N13.out.keep HD14.out)
      have HW14 := Lib.hid (Below.next HW13.out HD14.out)
      clear hb HD14 N13 HW13
      clear V14_u2
      go_wp2_with fail
      refine (C4.out _).mono ?_
      rintro e w15 ⟨v15, rfl, hr, hb⟩
      obtain ⟨qa15, qc15, qm15, qn15, rfl, -⟩ := hr.inv
      have N15 := Lib.hid (hr.any)
      clear hr
      have HD15 := Lib.hid (show Below w14.heap.size w14 w15 from hb)
      have HW15 := Lib.hid (Below.next HW14.out HD15.out)
      clear hb HD15 HW14
      go_wp2_with fail
      refine (D3.out _ _ (N15.out)).mono ?_
      rintro e w16 ⟨rfl, hb⟩
      have HD16 := Lib.hid (show Below w15.heap.size w15 w16 from hb)
      have V16_u3 := Lib.hid (N15.out.keep HD16.out)
      have HW16 := Lib.hid (Below.next HW15.out HD16.out)
      clear hb HD16 N15 HW15
      clear V16_u3
      go_wp2_with fail
      refine (C5.out _).mono ?_
      rintro e w17 ⟨v17, rfl, hr, hb⟩
      obtain ⟨qa17, qc17, qm17, qn17, rfl, -⟩ := hr.inv
      have N17 := Lib.hid (hr.any)
      clear hr
      have HD17 := Lib.hid (show Below w16.heap.size w16 w17 from hb)
      have HW17 := Lib.hid (Below.next HW16.out HD17.out)
      clear hb HD17 HW16
      go_wp2_with fail
      refine (D4.out _ _ (N17.out)).mono ?_
      rintro e w18 ⟨rfl, hb⟩
      have HD18 := Lib.hid (show Below w17.heap.size w17 w18 from hb)
      have V18_u4 := Lib.hid (N17.out.keep HD18.out)
      have HW18 := Lib.hid (Below.next HW17.out HD18.out)
      clear hb HD18 N17 HW17
      clear V18_u4
      go_wp2_with fail
      refine (C6.out _).mono ?_
      rintro e w19 ⟨v19, rfl, hr, hb⟩
      obtain ⟨qa19, qc19, qm19, qn19, rfl, -⟩ := hr.inv
      have N19 := Lib.hid (hr.any)
      clear hr
      have HD19 := Lib.hid (show Below w18.heap.size w18 w19 from hb)
      have HW19 := Lib.hid (Below.next HW18.out HD19.out)
      clear hb HD19 HW18
      go_wp2_with fail
      refine (D5.out _ _ (N19.out)).mono ?_
      rintro e w20 ⟨rfl, hb⟩
      have HD20 := Lib.hid (show Below w19.heap.size w19 w20 from hb)
      have V20_u5 := Lib.hid (N19.out.keep HD20.out)
      have HW20 := Lib.hid (Below.next HW19.out HD20.out)
      clear hb HD20 N19 HW19
      clear V20_u5
      go_wp2_with fail
      go_ret
      exact ⟨rfl, HW20.out⟩

end Go.Proofs.Ytmdihildjblgnaa
