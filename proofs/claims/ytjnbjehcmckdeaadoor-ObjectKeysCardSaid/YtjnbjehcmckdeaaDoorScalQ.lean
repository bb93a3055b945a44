/- mizzenref04.Quote and Single. -/
import Derived.Test.YtjnbjehcmckdeaaDoorStr
import Derived.Test.YtjnbjehcmckdeaaDoorScalP
namespace Go.Proofs.YtjnbjehcmckdeaaDoor
open Go.RowKit
attribute [local go_sem ↓] Go.wp_at_zero Go.wp_at_succ

theorem escL_snoc (l : List UInt8) (c : UInt8) : escL (l ++ [c]) = escL l ++ esc1 c := by simp [escL]
theorem escL_len : ∀ (l : List UInt8), (escL l).length ≤ 2 * l.length
  | [] => by simp [escL]
  | c :: l => by
    have ih := escL_len l
    have e : escL (c :: l) = esc1 c ++ escL l := by simp [escL]
    have h1 : (esc1 c).length ≤ 2 := by unfold esc1; repeat (first | (split) | simp)
    rw [e, List.length_append, List.length_cons]; omega
theorem sescL_snoc (l : List UInt8) (c : UInt8) : sescL (l ++ [c]) = sescL l ++ sesc1 c := by simp [sescL]
theorem sescL_len : ∀ (l : List UInt8), (sescL l).length ≤ 2 * l.length
  | [] => by simp [sescL]
  | c :: l => by
    have ih := sescL_len l
    have e : sescL (c :: l) = sesc1 c ++ sescL l := by simp [sescL]
    have h1 : (sesc1 c).length ≤ 2 := by unfold sesc1; split <;> simp
    rw [e, List.length_append, List.length_cons]; omega
set_option maxRecDepth 100000 in
set_option maxHeartbeats 4000000 in
theorem rquote (s : ByteArray) (hs : s.size ≤ 1000000) (w : World) : Calls Tryd.prog 51 #[.string s] w fun e w' => ∃ v : ByteArray, e = .returned (.string v) ∧ v.data.toList = quoteL s.data.toList ∧ w = w' := by
  go_enter Tryd.func51, Tryd.ntmps51
  go_wp2_with fail
  go_loop [3, 4] (fun x3 x4 => ∃ (o : ByteArray) (q : Nat), x3 = .string o ∧ x4 = .int .i64 q ∧ q ≤ s.size ∧ Hid (o.data.toList = 34 :: escL (s.data.toList.take q))) (fun _ x4 => s.size - (intOf x4).toNat)
  case atStart => exact ⟨_, 0, rfl, rfl, Nat.zero_le _, Lib.hid (by simp [escL])⟩
  case round =>
    obtain ⟨o, q, rfl, rfl, hq, hr⟩ := hrel
    have HR := Lib.hid hr.out
    clear hr
    have hos : o.size ≤ 2000001 := by
      have h1 := congrArg List.length HR.out
      have h2 := escL_len (s.data.toList.take q)
      have h3 := List.length_take_le q s.data.toList
      rw [← size_list, List.length_cons] at h1
      omega
    by_cases hlt : q < s.size
    · have hq2 : (q : Int) < s.size := by omega
      have h256 := UInt8.toNat_lt s[q]
      have HN := Lib.hid (show ∀ (o2 x : ByteArray), x.data.toList = esc1 s[q] → o2 = o ++ x → o2.data.toList = 34 :: escL (s.data.toList.take (q + 1)) from fun o2 x h1 h2 => by rw [h2, app_list, HR.out, h1, take_byte hlt, escL_snoc]; rfl)
      have HB := Lib.hid (one_byte hlt)
      by_cases c10 : s[q] = 10
      · have d10 : ((s[q].toNat : Int) == 10) = true := by rw [c10]; rfl
        have HC := Lib.hid (show esc1 s[q] = [92, 110] from by rw [esc1, if_pos c10])
        clear c10
        go_wp2_with fail
        go_round
        case rel => exact ⟨_, q + 1, rfl, by go_num, by omega, Lib.hid (HN.out _ _ HC.out.symm rfl)⟩
        case measure => simp [intOf]; omega
      · have d10 : ((s[q].toNat : Int) == 10) = false := beq_eq_false_iff_ne.2 (fun h => c10 (UInt8.toNat_inj.1 (by show _ = 10; omega)))
        by_cases c9 : s[q] = 9
        · have d9 : ((s[q].toNat : Int) == 9) = true := by rw [c9]; rfl
          have HC := Lib.hid (show esc1 s[q] = [92, 116] from by rw [esc1, if_neg c10, if_pos c9])
          clear c10 c9
          go_wp2_with fail
          go_round
          case rel => exact ⟨_, q + 1, rfl, by go_num, by omega, Lib.hid (HN.out _ _ HC.out.symm rfl)⟩
          case measure => simp [intOf]; omega
        · have d9 : ((s[q].toNat : Int) == 9) = false := beq_eq_false_iff_ne.2 (fun h => c9 (UInt8.toNat_inj.1 (by show _ = 9; omega)))
          by_cases c34 : s[q] = 34
          · have d34 : ((s[q].toNat : Int) == 34) = true := by rw [c34]; rfl
            have HC := Lib.hid (show esc1 s[q] = [92, s[q]] from by rw [esc1, if_neg c10, if_neg c9, if_pos (.inl c34)])
            clear c10 c9 c34
            go_wp2_with fail
            go_round
            case rel => exact ⟨_, q + 1, rfl, by go_num, by omega, Lib.hid (HN.out _ (⟨#[92]⟩ ++ s.extract q (q + 1)) (by rw [app_list, HB.out, HC.out]; rfl) (ByteArray.append_assoc ..))⟩
            case measure => simp [intOf]; omega
          · have d34 : ((s[q].toNat : Int) == 34) = false := beq_eq_false_iff_ne.2 (fun h => c34 (UInt8.toNat_inj.1 (by show _ = 34; omega)))
            by_cases c92 : s[q] = 92
            · have d92 : ((s[q].toNat : Int) == 92) = true := by rw [c92]; rfl
              have HC := Lib.hid (show esc1 s[q] = [92, s[q]] from by rw [esc1, if_neg c10, if_neg c9, if_pos (.inr c92)])
              clear c10 c9 c34 c92
              go_wp2_with fail
              go_round
              case rel => exact ⟨_, q + 1, rfl, by go_num, by omega, Lib.hid (HN.out _ (⟨#[92]⟩ ++ s.extract q (q + 1)) (by rw [app_list, HB.out, HC.out]; rfl) (ByteArray.append_assoc ..))⟩
              case measure => simp [intOf]; omega
            · have d92 : ((s[q].toNat : Int) == 92) = false := beq_eq_false_iff_ne.2 (fun h => c92 (UInt8.toNat_inj.1 (by show _ = 92; omega)))
              have HC := Lib.hid (show esc1 s[q] = [s[q]] from by rw [esc1, if_neg c10, if_neg c9, if_neg (by rintro (h | h) <;> contradiction)])
              clear c10 c9 c34 c92
              go_wp2_with fail
              go_round
              case rel => exact ⟨_, q + 1, rfl, by go_num, by omega, Lib.hid (HN.out _ (s.extract q (q + 1)) (by rw [HB.out, HC.out]) rfl)⟩
              case measure => simp [intOf]; omega
    · have hq2 : q = s.size := by omega
      have HQ := Lib.hid (show o.data.toList = 34 :: escL s.data.toList from by rw [HR.out, hq2, size_list, List.take_length])
      clear hq2
      go_wp2_with fail
      go_ret
      exact ⟨_, rfl, by rw [app_list, HQ.out]; rfl, rfl⟩

set_option maxRecDepth 100000 in
set_option maxHeartbeats 4000000 in
theorem rsingle (s : ByteArray) (hs : s.size ≤ 1000000) (w : World) : Calls Tryd.prog 52 #[.string s] w fun e w' => ∃ v : ByteArray, e = .returned (.string v) ∧ v.data.toList = singleL s.data.toList ∧ w = w' := by
  go_enter Tryd.func52, Tryd.ntmps52
  go_wp2_with fail
  go_loop [3, 4] (fun x3 x4 => ∃ (o : ByteArray) (q : Nat), x3 = .string o ∧ x4 = .int .i64 q ∧ q ≤ s.size ∧ Hid (o.data.toList = 39 :: sescL (s.data.toList.take q))) (fun _ x4 => s.size - (intOf x4).toNat)
  case atStart => exact ⟨_, 0, rfl, rfl, Nat.zero_le _, Lib.hid (by simp [sescL])⟩
  case round =>
    obtain ⟨o, q, rfl, rfl, hq, hr⟩ := hrel
    have HR := Lib.hid hr.out
    clear hr
    have hos : o.size ≤ 2000001 := by
      have h1 := congrArg List.length HR.out
      have h2 := sescL_len (s.data.toList.take q)
      have h3 := List.length_take_le q s.data.toList
      rw [← size_list, List.length_cons] at h1
      omega
    by_cases hlt : q < s.size
    · have hq2 : (q : Int) < s.size := by omega
      have h256 := UInt8.toNat_lt s[q]
      have HN := Lib.hid (show ∀ (o2 x : ByteArray), x.data.toList = sesc1 s[q] → o2 = o ++ x → o2.data.toList = 39 :: sescL (s.data.toList.take (q + 1)) from fun o2 x h1 h2 => by rw [h2, app_list, HR.out, h1, take_byte hlt, sescL_snoc]; rfl)
      have HB := Lib.hid (one_byte hlt)
      by_cases c39 : s[q] = 39
      · have d39 : ((s[q].toNat : Int) == 39) = true := by rw [c39]; rfl
        have HC := Lib.hid (show sesc1 s[q] = [39, 39] from by rw [sesc1, if_pos c39])
        have HB2 := Lib.hid (show (s.extract q (q + 1)).data.toList = [39] from by rw [HB.out, c39])
        clear c39
        have hx : (s.extract q (q + 1)).size = 1 := by rw [size_list, HB2.out]; rfl
        have hox : (o ++ s.extract q (q + 1)).size ≤ 2000002 := by rw [ByteArray.size_append, hx]; omega
        clear hx
        go_wp2_with fail
        go_round
        case rel => exact ⟨_, q + 1, rfl, by go_num, by omega, Lib.hid (HN.out _ (s.extract q (q + 1) ++ ⟨#[39]⟩) (by rw [app_list, HB2.out, HC.out]; rfl) (ByteArray.append_assoc ..))⟩
        case measure => simp [intOf]; omega
      · have d39 : ((s[q].toNat : Int) == 39) = false := beq_eq_false_iff_ne.2 (fun h => c39 (UInt8.toNat_inj.1 (by show _ = 39; omega)))
        have HC := Lib.hid (show sesc1 s[q] = [s[q]] from by rw [sesc1, if_neg c39])
        clear c39
        go_wp2_with fail
        go_round
        case rel => exact ⟨_, q + 1, rfl, by go_num, by omega, Lib.hid (HN.out _ (s.extract q (q + 1)) (by rw [HB.out, HC.out]) rfl)⟩
        case measure => simp [intOf]; omega
    · have hq2 : q = s.size := by omega
      have HQ := Lib.hid (show o.data.toList = 39 :: sescL s.data.toList from by rw [HR.out, hq2, size_list, List.take_length])
      clear hq2
      go_wp2_with fail
      go_ret
      exact ⟨_, rfl, by rw [app_list, HQ.out]; rfl, rfl⟩
end Go.Proofs.YtjnbjehcmckdeaaDoor
