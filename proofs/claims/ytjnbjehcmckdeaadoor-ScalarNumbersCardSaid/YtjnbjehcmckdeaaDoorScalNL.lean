/- ScalarNumbers answers true for every input (printed by gen/laws04.py). -/
import Derived.Test.YtjnbjehcmckdeaaDoorScalWL
import Derived.Deep.RegionHeld3
import Derived.Deep.DrawnRows
namespace Go.Proofs.YtjnbjehcmckdeaaDoor
open Go.RowKit
attribute [local go_sem ↓] Go.wp_at_zero Go.wp_at_succ

theorem int_call (n : Int) (hn : i64ok n) (w : World) : Calls Tryd.prog 39 #[.int .i64 n] w fun e w' => ∃ v, e = .returned v ∧ (∀ w2 S, RepT w2 S v (tN n)) ∧ Below w.heap.size w w' := by
  refine (tint n hn w).mono ?_
  rintro e w' ⟨v, rfl, hr, hb⟩
  exact ⟨v, rfl, fun w2 S => Leaf.any hr rfl rfl, hb⟩
def pad8 (k : Nat) : ByteArray := (⟨#[48, 48, 48, 48, 48, 48, 48, 48]⟩ : ByteArray).extract 0 k
theorem pad8_list : ∀ k, k ≤ 8 → (pad8 k).data.toList = List.replicate k 48 := by
  intro k hk
  have : k = 0 ∨ k = 1 ∨ k = 2 ∨ k = 3 ∨ k = 4 ∨ k = 5 ∨ k = 6 ∨ k = 7 ∨ k = 8 := by omega
  rcases this with rfl | rfl | rfl | rfl | rfl | rfl | rfl | rfl | rfl <;> decide
/-- The word with noughts ahead, and how it is read. -/
def NumF (n : Int) (k : Nat) (s0 : ByteArray) : Prop := ∃ s1 r2 : ByteArray, (if n < 0 then (⟨#[45]⟩ ++ pad8 k) ++ s0.extract 1 s0.size else pad8 k ++ s0) = s1 ∧ parseT s1 = some (tN n) ∧ printL (tS s1) = r2.data.toList ∧ parseT r2 = some (tS r2) ∧ s1.size ≤ 100 ∧ r2.size ≤ 1000
theorem numF {n : Int} (hn : i64ok n) {k : Nat} (hk : k ≤ 8) {s0 : ByteArray} (h0 : s0.data.toList = Lib.itoa n) (hz : s0.size ≤ 30) : NumF n k s0 := by
  unfold i64ok at hn
  have h1 : (if n < 0 then (⟨#[45]⟩ ++ pad8 k) ++ s0.extract 1 s0.size else pad8 k ++ s0 : ByteArray).data.toList = padded n k := by
    unfold padded
    by_cases hneg : n < 0
    · rw [if_pos hneg, if_pos hneg, app_list, app_list, pad8_list k hk, tail_list, h0, itoa_neg hneg]
      rfl
    · rw [if_neg hneg, if_neg hneg, app_list, pad8_list k hk, h0, itoa_pos hneg, show n.toNat = n.natAbs by omega]
  obtain ⟨p, q⟩ := pad_num n k (by omega) (by omega)
  refine ⟨_, ⟨(quoteL (padded n k)).toArray⟩, rfl, parse_int (by rw [h1]; exact p) (by rw [h1]; exact q), ?_, parse_quote (l := padded n k) rfl, ?_, ?_⟩
  · have hb : bareL (padded n k) = false := num_bare p
    have : (tS (if n < 0 then (⟨#[45]⟩ ++ pad8 k) ++ s0.extract 1 s0.size else pad8 k ++ s0 : ByteArray)).str.data.toList = padded n k := h1
    rw [print_quote rfl (by rw [this]; exact hb), this]
  · have h8 : (pad8 k).size ≤ 8 := by rw [size_list, pad8_list k hk, List.length_replicate]; exact hk
    split
    · rw [ByteArray.size_append, ByteArray.size_append, ByteArray.size_extract]; have : (⟨#[45]⟩ : ByteArray).size = 1 := rfl; omega
    · rw [ByteArray.size_append]; omega
  · have h8 : (pad8 k).size ≤ 8 := by rw [size_list, pad8_list k hk, List.length_replicate]; exact hk
    rw [size_list]
    show (quoteL (padded n k)).length ≤ 1000
    have h2 := escL_len (padded n k)
    have h3 : (padded n k).length ≤ 100 := by
      rw [← h1, ← size_list]
      split
      · rw [ByteArray.size_append, ByteArray.size_append, ByteArray.size_extract]; have : (⟨#[45]⟩ : ByteArray).size = 1 := rfl; omega
      · rw [ByteArray.size_append]; omega
    rw [quoteL]; simp; omega
theorem itoa_size {n : Int} (hn : i64ok n) : (Lib.itoa n).length ≤ 30 := by
  have h2 := dec_len 19 n.natAbs (by unfold i64ok at hn; omega)
  by_cases hneg : n < 0
  · rw [itoa_neg hneg]; simp; omega
  · rw [itoa_pos hneg]; omega
set_option maxRecDepth 100000 in
set_option maxHeartbeats 16000000 in
theorem numbersL (n : Int) (c : UInt8) (w : World) (hn : i64ok n) (hsc : ScalV w) : Calls Tryd.prog 8 #[.int .i64 n, .int .u8 c.toNat] w fun e w' => e = .returned (.bool true) ∧ Below w.heap.size w w' := by
  have HV := Lib.hid hsc
  clear hsc
  have HN := Lib.hid hn
  have h256 := UInt8.toNat_lt c
  obtain ⟨s0, h0⟩ : ∃ r : ByteArray, r.data.toList = Lib.itoa n := ⟨⟨(Lib.itoa n).toArray⟩, rfl⟩
  obtain ⟨k, hk⟩ : ∃ k : Nat, k = c.toNat % 9 := ⟨_, rfl⟩
  have hk8 : k ≤ 8 := by omega
  have hrem : Int.tmod (c.toNat : Int) 9 = (k : Int) := by rw [hk]; rfl
  have hz0 : s0.size ≤ 30 := by rw [size_list, h0]; exact itoa_size hn
  obtain ⟨s1, r2, hs1, P1, Q1, P2, z1, z2⟩ := numF hn hk8 h0 hz0
  have hnum : numL s0.data.toList = true ∧ intL s0.data.toList = some n := by rw [h0]; unfold i64ok at hn; exact itoa_num n (by omega) (by omega)
  have P0 := Lib.hid (parse_int hnum.1 hnum.2)
  have Q0 := Lib.hid (show printL (tN n) = s0.data.toList from h0.symm)
  have T0 := Lib.hid (show textL (tN n) = s0.data.toList from h0.symm)
  have CB := Lib.hid (fun w2 => bare_call (num_bare hnum.1) (by omega) w2)
  have HP1 := Lib.hid P1; have HQ1 := Lib.hid Q1; have HP2 := Lib.hid P2
  have HZ0 := Lib.hid hz0; have HZ1 := Lib.hid z1; have HZ2 := Lib.hid z2
  have e0 : (s0.toList == s0.toList) = true := by simp
  have hpos : Hid (1 ≤ s0.size) := by
    refine Lib.hid ?_
    rw [size_list, h0]; unfold Lib.itoa; split
    · simp
    · have := dec_ne n.toNat
      have h := List.length_pos_iff.2 this
      omega
  have hnn : (n == n) = true := by simp
  clear P1 Q1 P2 hnum h0 hk
  go_enter Tryd.func8, Tryd.ntmps8
  go_wp2_with fail
  refine (int_call n HN.out _).mono ?_
  rintro e w1 ⟨v1, rfl, hr0, hb⟩
  have HR1 := Lib.hid hr0
  clear hr0
  have HD1 := Lib.hid (show Below w.heap.size w w1 from hb)
  have HW1 := Lib.hid (show Below w.heap.size w w1 from HD1.out)
  clear hb HD1
  go_wp2_with fail
  refine (print_call (r := s0) Q0.out v1 _ HR1.out (by exact Nat.zero_le 1000000) (HV.out.keep (by exact HW1.out))).mono ?_
  rintro e w2 ⟨rfl, hb⟩
  have HD2 := Lib.hid (show Below w1.heap.size w1 w2 from hb)
  have HW2 := Lib.hid (Below.next HW1.out HD2.out)
  clear hb HD2 HW1
  go_wp2_with fail
  refine (parse_call P0.out (by have := HZ0.out; omega) _ (HV.out.keep (by exact HW2.out))).mono ?_
  rintro e w3 ⟨v3, rfl, hr0, hb⟩
  have hr := hr0 w3 (fun _ => True)
  clear hr0
  obtain ⟨qa3, qc3, qm3, qn3, rfl, -⟩ := hr.inv
  have N3 := Lib.hid (hr.any)
  clear hr
  have HD3 := Lib.hid (show Below w2.heap.size w2 w3 from hb)
  have HW3 := Lib.hid (Below.next HW2.out HD3.out)
  clear hb HD3 HW2
  go_wp2_with fail
  refine (CB.out _).mono ?_
  rintro e w9 ⟨rfl, rfl⟩
  go_wp2_with fail
  refine (int_call n HN.out _).mono ?_
  rintro e w4 ⟨v4, rfl, hr0, hb⟩
  have HR4 := Lib.hid hr0
  clear hr0
  have HD4 := Lib.hid (show Below w3.heap.size w3 w4 from Below.next (Below.new _ _) hb)
  have L4_0 := Lib.hid ((Blk.new w3 38 #[.int .i64 (tN n).kind, .bool (tN n).bool, .int .i64 (tN n).int, .string (tN n).str, .slice qa3 (tN n).list.length qc3, .slice qm3 (tN n).map.length qn3]).keep hb)
  have V4_x := Lib.hid (N3.out.keep HD4.out)
  have HW4 := Lib.hid (Below.next HW3.out HD4.out)
  clear hb HD4 N3 HW3
  have k4_0 := L4_0.out.cell
  have l4_0 := L4_0.out.lt
  go_wp2_with fail
  refine (ttext_call (r := s0) T0.out (by exact Nat.zero_le 1000000) v4 _ (fun _ => True) (HR4.out _ _) (HV.out.keep (by exact HW4.out))).mono ?_
  rintro e w5 ⟨rfl, hb⟩
  have HD5 := Lib.hid (show Below w4.heap.size w4 w5 from hb)
  have L5_0 := Lib.hid (L4_0.out.keep HD5.out)
  have V5_x := Lib.hid (V4_x.out.keep HD5.out)
  have HW5 := Lib.hid (Below.next HW4.out HD5.out)
  clear k4_0 l4_0 hb HD5 L4_0 V4_x HW4
  have k5_0 := L5_0.out.cell
  have l5_0 := L5_0.out.lt
  by_cases hneg : n < 0
  · have hneg1 : ¬ (0 : Int) ≤ n := by omega
    rw [if_pos hneg] at hs1
    clear hneg
    have h1z := hpos.out
    unfold pad8 at hs1
    go_wp2_with fail
    refine (parse_call HP1.out (by have := HZ1.out; omega) _ (HV.out.keep (by exact HW5.out))).mono ?_
    rintro e w6 ⟨v6, rfl, hr0, hb⟩
    have hr := hr0 w6 (fun _ => True)
    clear hr0
    obtain ⟨qa6, qc6, qm6, qn6, rfl, -⟩ := hr.inv
    have N6 := Lib.hid (hr.any)
    clear hr
    have HD6 := Lib.hid (show Below w5.heap.size w5 w6 from hb)
    have L6_0 := Lib.hid (L5_0.out.keep HD6.out)
    have V6_x := Lib.hid (V5_x.out.keep HD6.out)
    have HW6 := Lib.hid (Below.next HW5.out HD6.out)
    clear k5_0 l5_0 hb HD6 L5_0 V5_x HW5
    have k6_0 := L6_0.out.cell
    have l6_0 := L6_0.out.lt
    go_wp2_with fail
    refine (str_call s1 (by have := HZ1.out; omega) _).mono ?_
    rintro e w7 ⟨v7, rfl, hr0, hb⟩
    have HR7 := Lib.hid hr0
    clear hr0
    have HD7 := Lib.hid (show Below w6.heap.size w6 w7 from Below.next (Below.new _ _) hb)
    have L7_0 := Lib.hid (L6_0.out.keep HD7.out)
    have L7_1 := Lib.hid ((Blk.new w6 38 #[.int .i64 (tN n).kind, .bool (tN n).bool, .int .i64 (tN n).int, .string (tN n).str, .slice qa6 (tN n).list.length qc6, .slice qm6 (tN n).map.length qn6]).keep hb)
    have V7_x := Lib.hid (V6_x.out.keep HD7.out)
    have V7_y := Lib.hid (N6.out.keep HD7.out)
    have HW7 := Lib.hid (Below.next HW6.out HD7.out)
    clear k6_0 l6_0 hb HD7 L6_0 V6_x N6 HW6
    have k7_0 := L7_0.out.cell
    have l7_0 := L7_0.out.lt
    have k7_1 := L7_1.out.cell
    have l7_1 := L7_1.out.lt
    go_wp2_with fail
    refine (print_call (r := r2) HQ1.out v7 _ HR7.out (by have := HZ1.out; show s1.size ≤ 1000000; omega) (HV.out.keep (by exact HW7.out))).mono ?_
    rintro e w8 ⟨rfl, hb⟩
    have HD8 := Lib.hid (show Below w7.heap.size w7 w8 from hb)
    have L8_0 := Lib.hid (L7_0.out.keep HD8.out)
    have L8_1 := Lib.hid (L7_1.out.keep HD8.out)
    have V8_x := Lib.hid (V7_x.out.keep HD8.out)
    have V8_y := Lib.hid (V7_y.out.keep HD8.out)
    have HW8 := Lib.hid (Below.next HW7.out HD8.out)
    clear k7_0 l7_0 k7_1 l7_1 hb HD8 L7_0 L7_1 V7_x V7_y HW7
    have k8_0 := L8_0.out.cell
    have l8_0 := L8_0.out.lt
    have k8_1 := L8_1.out.cell
    have l8_1 := L8_1.out.lt
    go_wp2_with fail
    refine (parse_call HP2.out (by have := HZ2.out; omega) _ (HV.out.keep (by exact HW8.out))).mono ?_
    rintro e w9 ⟨v9, rfl, hr0, hb⟩
    have hr := hr0 w9 (fun _ => True)
    clear hr0
    obtain ⟨qa9, qc9, qm9, qn9, rfl, -⟩ := hr.inv
    have N9 := Lib.hid (hr.any)
    clear hr
    have HD9 := Lib.hid (show Below w8.heap.size w8 w9 from hb)
    have L9_0 := Lib.hid (L8_0.out.keep HD9.out)
    have L9_1 := Lib.hid (L8_1.out.keep HD9.out)
    have V9_x := Lib.hid (V8_x.out.keep HD9.out)
    have V9_y := Lib.hid (V8_y.out.keep HD9.out)
    have HW9 := Lib.hid (Below.next HW8.out HD9.out)
    clear k8_0 l8_0 k8_1 l8_1 hb HD9 L8_0 L8_1 V8_x V8_y HW8
    have k9_0 := L9_0.out.cell
    have l9_0 := L9_0.out.lt
    have k9_1 := L9_1.out.cell
    have l9_1 := L9_1.out.lt
    go_wp2_with fail
    refine (awake4 _ (HV.out.keep (by exact Below.next HW9.out (Below.new _ _)))).mono ?_
    rintro e w10 ⟨rfl, hb⟩
    have HD10 := Lib.hid (show Below w9.heap.size w9 w10 from Below.next (Below.new _ _) hb)
    have L10_0 := Lib.hid (L9_0.out.keep HD10.out)
    have L10_1 := Lib.hid (L9_1.out.keep HD10.out)
    have L10_2 := Lib.hid ((Blk.new w9 38 #[.int .i64 (tS r2).kind, .bool (tS r2).bool, .int .i64 (tS r2).int, .string (tS r2).str, .slice qa9 (tS r2).list.length qc9, .slice qm9 (tS r2).map.length qn9]).keep hb)
    have V10_x := Lib.hid (V9_x.out.keep HD10.out)
    have V10_y := Lib.hid (V9_y.out.keep HD10.out)
    have V10_z := Lib.hid (N9.out.keep HD10.out)
    have HW10 := Lib.hid (Below.next HW9.out HD10.out)
    clear k9_0 l9_0 k9_1 l9_1 hb HD10 L9_0 L9_1 V9_x V9_y N9 HW9
    have k10_0 := L10_0.out.cell
    have l10_0 := L10_0.out.lt
    have k10_1 := L10_1.out.cell
    have l10_1 := L10_1.out.lt
    have k10_2 := L10_2.out.cell
    have l10_2 := L10_2.out.lt
    go_wp2_with fail
    go_ret
    exact ⟨rfl, HW10.out⟩
  · have hneg1 : (0 : Int) ≤ n := by omega
    rw [if_neg hneg] at hs1
    clear hneg
    have h1z := hpos.out
    unfold pad8 at hs1
    go_wp2_with fail
    refine (parse_call HP1.out (by have := HZ1.out; omega) _ (HV.out.keep (by exact HW5.out))).mono ?_
    rintro e w6 ⟨v6, rfl, hr0, hb⟩
    have hr := hr0 w6 (fun _ => True)
    clear hr0
    obtain ⟨qa6, qc6, qm6, qn6, rfl, -⟩ := hr.inv
    have N6 := Lib.hid (hr.any)
    clear hr
    have HD6 := Lib.hid (show Below w5.heap.size w5 w6 from hb)
    have L6_0 := Lib.hid (L5_0.out.keep HD6.out)
    have V6_x := Lib.hid (V5_x.out.keep HD6.out)
    have HW6 := Lib.hid (Below.next HW5.out HD6.out)
    clear k5_0 l5_0 hb HD6 L5_0 V5_x HW5
    have k6_0 := L6_0.out.cell
    have l6_0 := L6_0.out.lt
    go_wp2_with fail
    refine (str_call s1 (by have := HZ1.out; omega) _).mono ?_
    rintro e w7 ⟨v7, rfl, hr0, hb⟩
    have HR7 := Lib.hid hr0
    clear hr0
    have HD7 := Lib.hid (show Below w6.heap.size w6 w7 from Below.next (Below.new _ _) hb)
    have L7_0 := Lib.hid (L6_0.out.keep HD7.out)
    have L7_1 := Lib.hid ((Blk.new w6 38 #[.int .i64 (tN n).kind, .bool (tN n).bool, .int .i64 (tN n).int, .string (tN n).str, .slice qa6 (tN n).list.length qc6, .slice qm6 (tN n).map.length qn6]).keep hb)
    have V7_x := Lib.hid (V6_x.out.keep HD7.out)
    have V7_y := Lib.hid (N6.out.keep HD7.out)
    have HW7 := Lib.hid (Below.next HW6.out HD7.out)
    clear k6_0 l6_0 hb HD7 L6_0 V6_x N6 HW6
    have k7_0 := L7_0.out.cell
    have l7_0 := L7_0.out.lt
    have k7_1 := L7_1.out.cell
    have l7_1 := L7_1.out.lt
    go_wp2_with fail
    refine (print_call (r := r2) HQ1.out v7 _ HR7.out (by have := HZ1.out; show s1.size ≤ 1000000; omega) (HV.out.keep (by exact HW7.out))).mono ?_
    rintro e w8 ⟨rfl, hb⟩
    have HD8 := Lib.hid (show Below w7.heap.size w7 w8 from hb)
    have L8_0 := Lib.hid (L7_0.out.keep HD8.out)
    have L8_1 := Lib.hid (L7_1.out.keep HD8.out)
    have V8_x := Lib.hid (V7_x.out.keep HD8.out)
    have V8_y := Lib.hid (V7_y.out.keep HD8.out)
    have HW8 := Lib.hid (Below.next HW7.out HD8.out)
    clear k7_0 l7_0 k7_1 l7_1 hb HD8 L7_0 L7_1 V7_x V7_y HW7
    have k8_0 := L8_0.out.cell
    have l8_0 := L8_0.out.lt
    have k8_1 := L8_1.out.cell
    have l8_1 := L8_1.out.lt
    go_wp2_with fail
    refine (parse_call HP2.out (by have := HZ2.out; omega) _ (HV.out.keep (by exact HW8.out))).mono ?_
    rintro e w9 ⟨v9, rfl, hr0, hb⟩
    have hr := hr0 w9 (fun _ => True)
    clear hr0
    obtain ⟨qa9, qc9, qm9, qn9, rfl, -⟩ := hr.inv
    have N9 := Lib.hid (hr.any)
    clear hr
    have HD9 := Lib.hid (show Below w8.heap.size w8 w9 from hb)
    have L9_0 := Lib.hid (L8_0.out.keep HD9.out)
    have L9_1 := Lib.hid (L8_1.out.keep HD9.out)
    have V9_x := Lib.hid (V8_x.out.keep HD9.out)
    have V9_y := Lib.hid (V8_y.out.keep HD9.out)
    have HW9 := Lib.hid (Below.next HW8.out HD9.out)
    clear k8_0 l8_0 k8_1 l8_1 hb HD9 L8_0 L8_1 V8_x V8_y HW8
    have k9_0 := L9_0.out.cell
    have l9_0 := L9_0.out.lt
    have k9_1 := L9_1.out.cell
    have l9_1 := L9_1.out.lt
    go_wp2_with fail
    refine (awake4 _ (HV.out.keep (by exact Below.next HW9.out (Below.new _ _)))).mono ?_
    rintro e w10 ⟨rfl, hb⟩
    have HD10 := Lib.hid (show Below w9.heap.size w9 w10 from Below.next (Below.new _ _) hb)
    have L10_0 := Lib.hid (L9_0.out.keep HD10.out)
    have L10_1 := Lib.hid (L9_1.out.keep HD10.out)
    have L10_2 := Lib.hid ((Blk.new w9 38 #[.int .i64 (tS r2).kind, .bool (tS r2).bool, .int .i64 (tS r2).int, .string (tS r2).str, .slice qa9 (tS r2).list.length qc9, .slice qm9 (tS r2).map.length qn9]).keep hb)
    have V10_x := Lib.hid (V9_x.out.keep HD10.out)
    have V10_y := Lib.hid (V9_y.out.keep HD10.out)
    have V10_z := Lib.hid (N9.out.keep HD10.out)
    have HW10 := Lib.hid (Below.next HW9.out HD10.out)
    clear k9_0 l9_0 k9_1 l9_1 hb HD10 L9_0 L9_1 V9_x V9_y N9 HW9
    have k10_0 := L10_0.out.cell
    have l10_0 := L10_0.out.lt
    have k10_1 := L10_1.out.cell
    have l10_1 := L10_1.out.lt
    have k10_2 := L10_2.out.cell
    have l10_2 := L10_2.out.lt
    go_wp2_with fail
    go_ret
    exact ⟨rfl, HW10.out⟩

end Go.Proofs.YtjnbjehcmckdeaaDoor
