/- The example of scalar's laws; ScalarBares answers true for every input: the law. -/
import Derived.Test.YtjnbjehcmckdeaaDoorScalN
import Derived.Test.YtjnbjehcmckdeaaDoorLaw
namespace Go.Proofs.YtjnbjehcmckdeaaDoor
open Go.RowKit
attribute [local go_sem ↓] Go.wp_at_zero Go.wp_at_succ

theorem parse_call {s : ByteArray} {t : T} (h : parseT s = some t) (hs : s.size ≤ 140737488351232) (w : World) (hv : ScalV w) : Calls Tryd.prog 31 #[.string s] w (ParsePost w t 0) := by
  have := tparse s hs w hv
  rw [(parse_is h).1, (parse_is h).2] at this
  exact this
theorem print_call {t : T} {r : ByteArray} (h : printL t = r.data.toList) (v : Value) (w : World) (hr : ∀ w2 S, RepT w2 S v t) (hs : t.str.size ≤ 1000000) (hv : ScalV w) :
    Calls Tryd.prog 32 #[v] w fun e w' => e = .returned (.string r) ∧ Below w.heap.size w w' := by
  refine (tprint t v w (fun _ => True) (hr w _) hs hv).mono ?_
  rintro e w' ⟨q, rfl, hq, hb⟩
  obtain rfl : q = r := list_ext (by rw [hq, h])
  exact ⟨rfl, hb⟩
theorem bare_call {s : ByteArray} {b : Bool} (h : bareL s.data.toList = b) (hs : s.size ≤ 1000000) (w : World) : Calls Tryd.prog 30 #[.string s] w fun e w' => e = .returned (.bool b) ∧ w = w' := h ▸ tbare s (by omega) w
theorem str_call (s : ByteArray) (hs : s.size ≤ 1000000) (w : World) : Calls Tryd.prog 40 #[.string s] w fun e w' => ∃ v, e = .returned v ∧ (∀ w2 S, RepT w2 S v (tS s)) ∧ Below w.heap.size w w' := by
  refine (tstr s (by omega) w).mono ?_
  rintro e w' ⟨v, rfl, hr, hb⟩
  exact ⟨v, rfl, fun w2 S => Leaf.any hr rfl rfl, hb⟩
theorem leaf_inv {v : Value} {t : T} (h : ∀ w2 S, RepT w2 S v t) : ∃ la lc ma mc, v = .agg #[.int .i64 t.kind, .bool t.bool, .int .i64 t.int, .string t.str, .slice la t.list.length lc, .slice ma t.map.length mc] := by
  obtain ⟨la, lc, ma, mc, e, -⟩ := (h default (fun _ => True)).inv
  exact ⟨la, lc, ma, mc, e⟩
set_option maxRecDepth 100000 in
set_option maxHeartbeats 4000000 in
theorem awake4 (w : World) (hv : ScalV w) : Calls Tryd.prog 29 #[] w fun e w' => e = .returned (.bool true) ∧ Below w.heap.size w w' := by
  have HV := Lib.hid hv
  have P1 : Hid (parseT ⟨#[48, 48, 55]⟩ = some (tN 7)) := Lib.hid (parse_int (by decide) (by decide))
  have Q1 : Hid (printL (tS ⟨#[97, 32, 98]⟩) = (⟨#[34, 97, 32, 98, 34]⟩ : ByteArray).data.toList) := Lib.hid (by decide)
  have Q2 : Hid (printL (tS ⟨#[118, 49, 46, 50, 47, 120]⟩) = (⟨#[118, 49, 46, 50, 47, 120]⟩ : ByteArray).data.toList) := Lib.hid (by decide)
  clear hv
  go_enter Tryd.func29, Tryd.ntmps29
  go_wp2_with fail
  refine (parse_call P1.out (by decide) _ HV.out).mono ?_
  rintro e w1 ⟨v1, rfl, hr1, hb1⟩
  obtain ⟨la1, lc1, ma1, mc1, rfl⟩ := leaf_inv hr1
  have HB1 := Lib.hid hb1
  clear hr1 hb1
  go_wp2_with fail
  refine (str_call ⟨#[97, 32, 98]⟩ (by decide) _).mono ?_
  rintro e w2 ⟨v2, rfl, hr2, hb2⟩
  have HR2 := Lib.hid hr2
  have HB2 := Lib.hid (Below.next HB1.out (Below.next (Below.new _ _) hb2))
  clear hr2 hb2
  go_wp2_with fail
  refine (print_call (r := ⟨#[34, 97, 32, 98, 34]⟩) Q1.out v2 _ HR2.out (by decide) (HV.out.keep HB2.out)).mono ?_
  rintro e w3 ⟨rfl, hb3⟩
  have HB3 := Lib.hid (Below.next HB2.out hb3)
  clear hb3
  go_wp2_with fail
  refine (str_call ⟨#[118, 49, 46, 50, 47, 120]⟩ (by decide) _).mono ?_
  rintro e w4 ⟨v4, rfl, hr4, hb4⟩
  have HR4 := Lib.hid hr4
  have HB4 := Lib.hid (Below.next HB3.out hb4)
  clear hr4 hb4
  go_wp2_with fail
  refine (print_call (r := ⟨#[118, 49, 46, 50, 47, 120]⟩) Q2.out v4 _ HR4.out (by decide) (HV.out.keep HB4.out)).mono ?_
  rintro e w5 ⟨rfl, hb5⟩
  have HB5 := Lib.hid (Below.next HB4.out hb5)
  clear hb5
  go_wp2_with fail
  go_ret
  exact ⟨rfl, HB5.out⟩

theorem conv_u8 (c : UInt8) (W : World) : (convert 55 9 (.slice (some ⟨W.heap.size, 0, none⟩) 1 1)).run Tryd.prog (W.alloc (.cells #[.int .u8 (c.toNat : Int)] 5)) = .ok (.string ⟨#[c]⟩) (W.alloc (.cells #[.int .u8 (c.toNat : Int)] 5)) := by
  have := run_convert_bytes_arg (P := Tryd.prog) (W.alloc (.cells #[.int .u8 (c.toNat : Int)] 5)) 55 5 (by kernel_rfl) (by kernel_rfl) W.heap.size 0 1 1 [(c.toNat : Int)] rfl (fun i hi => by
    obtain rfl : i = 0 := by omega
    exact (Blk.new W 5 #[.int .u8 (c.toNat : Int)]).cell 0) 9 (by kernel_rfl)
  rw [this]
  have e : strOfNums [(c.toNat : Int)] = ⟨#[c]⟩ := by
    show (⟨#[UInt8.ofNat (c.toNat : Int).toNat]⟩ : ByteArray) = ⟨#[c]⟩
    simp
  rw [e]
set_option maxRecDepth 100000 in
set_option maxHeartbeats 8000000 in
theorem baresL (s : ByteArray) (c : UInt8) (w : World) (hs : s.size ≤ 140737488351232) (hv : ScalV w) : Calls Tryd.prog 6 #[.string s, .int .u8 c.toNat] w fun e w' => e = .returned (.bool true) ∧ Below w.heap.size w w' := by
  have HV := Lib.hid hv
  clear hv
  have h256 := UInt8.toNat_lt c
  by_cases hz : s.size ≤ 300
  case neg =>
    have hz1 : (300 : Int) < (s.size : Int) := by omega
    go_enter Tryd.func6, Tryd.ntmps6
    go_wp2_with (go_at_call 29; refine (awake4 _ HV.out).mono ?_; rintro e w9 ⟨rfl, hb9⟩)
    go_ret
    exact ⟨rfl, hb9⟩
  have hz1 : (s.size : Int) ≤ 300 := by omega
  have hcv := conv_u8 c
  have hcs : (⟨#[c]⟩ : ByteArray).size = 1 := rfl
  have HL := Lib.hid (fun h : letterB c = false => show bareL (⟨#[c]⟩ ++ s : ByteArray).data.toList = false by
    have e : (⟨#[c]⟩ ++ s : ByteArray).data.toList = c :: s.data.toList := by rw [app_list]; rfl
    rw [e]; exact bare_not h)
  have HT := Lib.hid (show (⟨#[c]⟩ ++ s : ByteArray).size ≤ 1000000 by rw [ByteArray.size_append, hcs]; omega)
  have hcl : ((97 : Int) ≤ c.toNat ∧ (c.toNat : Int) ≤ 122) ∨ ((c.toNat : Int) < 97 ∧ (65 : Int) ≤ c.toNat ∧ (c.toNat : Int) ≤ 90) ∨ (letterB c = false ∧ (((c.toNat : Int) < 97 ∧ (c.toNat : Int) < 65) ∨ ((c.toNat : Int) < 97 ∧ (65 : Int) ≤ c.toNat ∧ (90 : Int) < c.toNat) ∨ ((97 : Int) ≤ c.toNat ∧ (122 : Int) < c.toNat ∧ (65 : Int) ≤ c.toNat ∧ (90 : Int) < c.toNat))) := by
    by_cases hl : letterB c = true
    · have : (97 ≤ c.toNat ∧ c.toNat ≤ 122) ∨ (65 ≤ c.toNat ∧ c.toNat ≤ 90) := by simpa [letterB] using hl
      omega
    · right; right
      refine ⟨by simpa using hl, ?_⟩
      have : ¬ ((97 ≤ c.toNat ∧ c.toNat ≤ 122) ∨ (65 ≤ c.toNat ∧ c.toNat ≤ 90)) := fun h => hl (by simpa [letterB] using h)
      omega
  obtain ⟨bb, hbb⟩ : ∃ d, d = bareL s.data.toList := ⟨_, rfl⟩
  have CB := Lib.hid (fun w2 => bare_call hbb.symm (by omega) w2)
  have HX := Lib.hid hbb
  clear hbb
  cases bb
  case false =>
    rcases hcl with ⟨i1, i2⟩ | ⟨i1, i2, i3⟩ | ⟨hl, hcl⟩
    case inr.inr =>
      have CT := Lib.hid (fun w2 => bare_call (HL.out hl) HT.out w2)
      clear hl
      rcases hcl with ⟨i1, i2⟩ | ⟨i1, i2, i3⟩ | ⟨i1, i2, i3, i4⟩
      all_goals
        go_enter Tryd.func6, Tryd.ntmps6
        go_wp2_with fail
        refine (CT.out _).mono ?_
        rintro e w1 ⟨rfl, rfl⟩
        go_wp2_with fail
        refine (CB.out _).mono ?_
        rintro e w1 ⟨rfl, rfl⟩
        go_wp2_with fail
        refine (awake4 _ (HV.out.keep (Below.new _ _))).mono ?_
        rintro e w9 ⟨rfl, hb9⟩
        go_wp2_with fail
        go_ret
        exact ⟨rfl, Below.next (Below.new _ _) hb9⟩
    all_goals
      go_enter Tryd.func6, Tryd.ntmps6
      go_wp2_with fail
      refine (CB.out _).mono ?_
      rintro e w1 ⟨rfl, rfl⟩
      go_wp2_with fail
      refine (awake4 _ (HV.out.keep (Below.new _ _))).mono ?_
      rintro e w9 ⟨rfl, hb9⟩
      go_wp2_with fail
      go_ret
      exact ⟨rfl, Below.next (Below.new _ _) hb9⟩
  case true =>
  have P1 := Lib.hid (parse_bare HX.out.symm)
  have Q1 := Lib.hid (show printL (tS s) = s.data.toList from print_bare rfl HX.out.symm)
  have M1 := Lib.hid (show bareL (s ++ ⟨#[49]⟩ : ByteArray).data.toList = true by rw [app_list]; exact bare_more HX.out.symm (by decide) (by decide) (by decide))
  have M2 := Lib.hid (show bareL (s ++ ⟨#[95]⟩ : ByteArray).data.toList = true by rw [app_list]; exact bare_more HX.out.symm (by decide) (by decide) (by decide))
  have Z1 := Lib.hid (show (s ++ ⟨#[49]⟩ : ByteArray).size ≤ 1000000 by rw [ByteArray.size_append]; have : (⟨#[49]⟩ : ByteArray).size = 1 := rfl; omega)
  have Z2 := Lib.hid (show (s ++ ⟨#[95]⟩ : ByteArray).size ≤ 1000000 by rw [ByteArray.size_append]; have : (⟨#[95]⟩ : ByteArray).size = 1 := rfl; omega)
  have Z0 := Lib.hid hz
  clear HX hz
  rcases hcl with ⟨i1, i2⟩ | ⟨i1, i2, i3⟩ | ⟨hl, hcl⟩
  case inr.inr =>
    have CT := Lib.hid (fun w2 => bare_call (HL.out hl) HT.out w2)
    clear hl
    rcases hcl with ⟨i1, i2⟩ | ⟨i1, i2, i3⟩ | ⟨i1, i2, i3, i4⟩
    all_goals
      go_enter Tryd.func6, Tryd.ntmps6
      go_wp2_with fail
      refine (CT.out _).mono ?_
      rintro e w1 ⟨rfl, rfl⟩
      go_wp2_with fail
      refine (CB.out _).mono ?_
      rintro e w1 ⟨rfl, rfl⟩
      go_wp2_with fail
      refine (parse_call P1.out (by have := Z0.out; omega) _ (HV.out.keep (Below.new _ _))).mono ?_
      rintro e w1 ⟨v1, rfl, hr1, hb1⟩
      obtain ⟨la1, lc1, ma1, mc1, rfl⟩ := leaf_inv hr1
      have HR1 := Lib.hid hr1
      have HB1 := Lib.hid (Below.next (Below.next (Below.new _ _) hb1) (Below.new _ (.cells #[.int .i64 (tS s).kind, .bool (tS s).bool, .int .i64 (tS s).int, .string (tS s).str, .slice la1 (tS s).list.length lc1, .slice ma1 (tS s).map.length mc1] 38)))
      have HK1 := Lib.hid (Blk.new w1 38 #[.int .i64 (tS s).kind, .bool (tS s).bool, .int .i64 (tS s).int, .string (tS s).str, .slice la1 (tS s).list.length lc1, .slice ma1 (tS s).map.length mc1])
      clear hr1 hb1
      go_wp2_with fail
      refine (awake4 _ (HV.out.keep HB1.out)).mono ?_
      rintro e w2 ⟨rfl, hb2⟩
      have hk2 := HK1.out.keep hb2
      have HK2 := Lib.hid hk2
      have k0 := ((hk2).cell 0 : _ = some _); have k1 := ((hk2).cell 1 : _ = some _); have k2 := ((hk2).cell 2 : _ = some _); have k3 := ((hk2).cell 3 : _ = some _); have k4 := ((hk2).cell 4 : _ = some _); have k5 := ((hk2).cell 5 : _ = some _)
      have HB2 := Lib.hid (Below.next HB1.out hb2)
      clear hb2 hk2
      go_wp2_with fail
      refine (print_call Q1.out _ _ HR1.out (by have := Z0.out; show s.size ≤ 1000000; omega) (HV.out.keep HB2.out)).mono ?_
      rintro e w3 ⟨rfl, hb3⟩
      have HB3 := Lib.hid (Below.next HB2.out hb3)
      clear hb3
      go_wp2_with fail
      refine (bare_call M1.out Z1.out _).mono ?_
      rintro e w4 ⟨rfl, rfl⟩
      go_wp2_with fail
      refine (bare_call M2.out Z2.out _).mono ?_
      rintro e w4 ⟨rfl, rfl⟩
      go_wp2_with fail
      go_ret
      exact ⟨rfl, HB3.out⟩
  all_goals
    go_enter Tryd.func6, Tryd.ntmps6
    go_wp2_with fail
    refine (CB.out _).mono ?_
    rintro e w1 ⟨rfl, rfl⟩
    go_wp2_with fail
    refine (parse_call P1.out (by have := Z0.out; omega) _ (HV.out.keep (Below.new _ _))).mono ?_
    rintro e w1 ⟨v1, rfl, hr1, hb1⟩
    obtain ⟨la1, lc1, ma1, mc1, rfl⟩ := leaf_inv hr1
    have HR1 := Lib.hid hr1
    have HB1 := Lib.hid (Below.next (Below.next (Below.new _ _) hb1) (Below.new _ (.cells #[.int .i64 (tS s).kind, .bool (tS s).bool, .int .i64 (tS s).int, .string (tS s).str, .slice la1 (tS s).list.length lc1, .slice ma1 (tS s).map.length mc1] 38)))
    have HK1 := Lib.hid (Blk.new w1 38 #[.int .i64 (tS s).kind, .bool (tS s).bool, .int .i64 (tS s).int, .string (tS s).str, .slice la1 (tS s).list.length lc1, .slice ma1 (tS s).map.length mc1])
    clear hr1 hb1
    go_wp2_with fail
    refine (awake4 _ (HV.out.keep HB1.out)).mono ?_
    rintro e w2 ⟨rfl, hb2⟩
    have hk2 := HK1.out.keep hb2
    have HK2 := Lib.hid hk2
    have k0 := ((hk2).cell 0 : _ = some _); have k1 := ((hk2).cell 1 : _ = some _); have k2 := ((hk2).cell 2 : _ = some _); have k3 := ((hk2).cell 3 : _ = some _); have k4 := ((hk2).cell 4 : _ = some _); have k5 := ((hk2).cell 5 : _ = some _)
    have HB2 := Lib.hid (Below.next HB1.out hb2)
    clear hb2 hk2
    go_wp2_with fail
    refine (print_call Q1.out _ _ HR1.out (by have := Z0.out; show s.size ≤ 1000000; omega) (HV.out.keep HB2.out)).mono ?_
    rintro e w3 ⟨rfl, hb3⟩
    have HB3 := Lib.hid (Below.next HB2.out hb3)
    clear hb3
    go_wp2_with fail
    refine (bare_call M1.out Z1.out _).mono ?_
    rintro e w4 ⟨rfl, rfl⟩
    go_wp2_with fail
    refine (bare_call M2.out Z2.out _).mono ?_
    rintro e w4 ⟨rfl, rfl⟩
    go_wp2_with fail
    go_ret
    exact ⟨rfl, HB3.out⟩
end Go.Proofs.YtjnbjehcmckdeaaDoor
