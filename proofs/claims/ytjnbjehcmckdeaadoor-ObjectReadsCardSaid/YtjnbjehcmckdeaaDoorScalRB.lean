/- mizzenref04.Bare (printed by gen/scalrb.py). -/
import Derived.Test.YtjnbjehcmckdeaaDoorScalB
namespace Go.Proofs.YtjnbjehcmckdeaaDoor
open Go.RowKit
attribute [local go_sem ↓] Go.wp_at_zero Go.wp_at_succ

set_option maxRecDepth 100000 in
set_option maxHeartbeats 8000000 in
theorem rbare (s : ByteArray) (hs : s.size ≤ 140737488355328) (w : World) : Calls Tryd.prog 35 #[.string s] w fun e w' => e = .returned (.bool (bareL s.data.toList)) ∧ w = w' := by
  have HB := Lib.hid (fun h => bare_ends s h)
  have HF := Lib.hid (fun q (h : okL (s.data.toList.take (q + 1)) = false) => okL_bad (s := s) h)
  have HW := Lib.hid (show s.toList.isEmpty = true ∨ s.toList == nullW ∨ s.toList == trueW ∨ s.toList == falseW → bareL s.data.toList = false from fun h => by
    rw [bareL, Bool.and_eq_false_iff]; right
    rw [ByteArray.toList_eq] at h
    rcases h with h | h | h | h
    · rw [List.isEmpty_iff] at h; rw [h]; rfl
    all_goals (rw [h]; simp))
  have HOK := Lib.hid (fun (h : okL (s.data.toList.take s.size) = true) => show okL s.data.toList = true by rw [take_all] at h; exact h)
  generalize bareL s.data.toList = bb at *
  have hz : ((s.size : Int) == 0) = s.toList.isEmpty := by
    rw [ByteArray.toList_eq, size_list]
    cases s.data.toList with
    | nil => rfl
    | cons c r => simp; omega
  cases h0 : s.toList.isEmpty
  case true =>
    have hz' : ((s.size : Int) == 0) = true := hz.trans h0
    have HE := Lib.hid (HW.out (.inl h0))
    clear hz h0 HW HB HF HOK
    go_enter Tryd.func35, Tryd.ntmps35
    go_wp2_with fail
    go_ret
    exact ⟨by rw [HE.out]; rfl, rfl⟩
  have hz' : ((s.size : Int) == 0) = false := hz.trans h0
  clear hz
  cases h1 : s.toList == nullW
  case true =>
    have g1 : (s.toList == [110, 117, 108, 108]) = true := h1
    have HE := Lib.hid (HW.out (.inr (.inl h1)))
    clear HW HB HF h0 HOK
    clear h1
    go_enter Tryd.func35, Tryd.ntmps35
    go_wp2_with fail
    go_ret
    exact ⟨by rw [HE.out]; rfl, rfl⟩
  have g1 : (s.toList == [110, 117, 108, 108]) = false := h1
  cases h2 : s.toList == trueW
  case true =>
    have g2 : (s.toList == [116, 114, 117, 101]) = true := h2
    have HE := Lib.hid (HW.out (.inr (.inr (.inl h2))))
    clear HW HB HF h0 HOK
    clear h1 h2
    go_enter Tryd.func35, Tryd.ntmps35
    go_wp2_with fail
    go_ret
    exact ⟨by rw [HE.out]; rfl, rfl⟩
  have g2 : (s.toList == [116, 114, 117, 101]) = false := h2
  cases h3 : s.toList == falseW
  case true =>
    have g3 : (s.toList == [102, 97, 108, 115, 101]) = true := h3
    have HE := Lib.hid (HW.out (.inr (.inr (.inr h3))))
    clear HW HB HF h0 HOK
    clear h1 h2 h3
    go_enter Tryd.func35, Tryd.ntmps35
    go_wp2_with fail
    go_ret
    exact ⟨by rw [HE.out]; rfl, rfl⟩
  have g3 : (s.toList == [102, 97, 108, 115, 101]) = false := h3
  have HB2 := Lib.hid (fun h => show bb = true by rw [HB.out h, h0, h1, h2, h3]; rfl)
  clear h0 h1 h2 h3 HB HW
  go_enter Tryd.func35, Tryd.ntmps35
  go_wp2_with fail
  go_loop [3] (fun x3 => ∃ (q : Nat), x3 = .int .i64 q ∧ q ≤ s.size ∧ Hid (okL (s.data.toList.take q) = true)) (fun x3 => s.size - (intOf x3).toNat)
  case atStart => exact ⟨0, rfl, Nat.zero_le _, Lib.hid (by simp [okL])⟩
  case round =>
    obtain ⟨q, rfl, hq, HR⟩ := hrel
    by_cases hlt : q < s.size
    case neg =>
      have hq3 : ¬ (q : Int) < s.size := by omega
      have HE := Lib.hid (HB2.out (HOK.out (by rw [show s.size = q by omega]; exact HR.out)))
      clear hlt hq
      go_wp2_with fail
      go_ret
      exact ⟨by rw [HE.out]; rfl, rfl⟩
    have hq2 : (q : Int) < s.size := by omega
    have h256 := UInt8.toNat_lt s[q]
    have HA := Lib.hid (okL_at hlt HR.out)
    obtain ⟨n, hn⟩ : ∃ n, n = s[q].toNat := ⟨_, rfl⟩
    have hL : letterB s[q] = decide ((97 ≤ n ∧ n ≤ 122) ∨ (65 ≤ n ∧ n ≤ 90)) := by rw [hn]; rfl
    have hM : moreB s[q] = decide ((48 ≤ n ∧ n ≤ 57) ∨ n = 95 ∨ n = 45 ∨ n = 46 ∨ n = 47) := by
      have e : ∀ k : Nat, k < 256 → (s[q] == UInt8.ofNat k) = decide (n = k) := fun k hk => by
        rw [← u8_eq hk, hn, Bool.eq_iff_iff]; simp; omega
      have e95 := e 95 (by omega); have e45 := e 45 (by omega); have e46 := e 46 (by omega); have e47 := e 47 (by omega)
      rw [moreB, digitB, ← hn]
      rw [show (s[q] == 95) = decide (n = 95) from e95, show (s[q] == 45) = decide (n = 45) from e45, show (s[q] == 46) = decide (n = 46) from e46, show (s[q] == 47) = decide (n = 47) from e47]
      simp only [Bool.decide_or, Bool.or_assoc]
    rw [← hn] at h256
    have HLM := Lib.hid (⟨hL, hM⟩ : _ ∧ _)
    have hc : (n ≤ 44) ∨ (n = 45) ∨ (n = 46) ∨ (n = 47) ∨ (48 ≤ n ∧ n ≤ 57) ∨ (58 ≤ n ∧ n ≤ 64) ∨ (65 ≤ n ∧ n ≤ 90) ∨ (91 ≤ n ∧ n ≤ 94) ∨ (n = 95) ∨ (n = 96) ∨ (97 ≤ n ∧ n ≤ 122) ∨ (123 ≤ n ∧ n ≤ 255) := by omega
    clear hL hM
    rcases hc with hc | hc | hc | hc | hc | hc | hc | hc | hc | hc | hc | hc
    · have a1 : (s[q].toNat : Int) < 65 := (by omega); have a2 : (s[q].toNat : Int) < 97 := (by omega); have a3 : (s[q].toNat : Int) < 48 := (by omega); have b1 : (s[q].toNat : Int) ≤ 90 := (by omega); have b2 : (s[q].toNat : Int) ≤ 122 := (by omega); have b3 : (s[q].toNat : Int) ≤ 57 := (by omega)
      have e95 : ((s[q].toNat : Int) == 95) = false := by rw [beq_eq_false_iff_ne]; omega
      have e45 : ((s[q].toNat : Int) == 45) = false := by rw [beq_eq_false_iff_ne]; omega
      have e46 : ((s[q].toNat : Int) == 46) = false := by rw [beq_eq_false_iff_ne]; omega
      have e47 : ((s[q].toNat : Int) == 47) = false := by rw [beq_eq_false_iff_ne]; omega
      have HL := Lib.hid (show letterB s[q] = false by rw [HLM.out.1]; exact decide_eq_false (by omega))
      have HM := Lib.hid (show moreB s[q] = false by rw [HLM.out.2]; exact decide_eq_false (by omega))
      clear hn hc h256 HLM
      by_cases h0 : q = 0
      · have g0 : ((q : Int) == 0) = true := by rw [h0]; rfl
        have HE := Lib.hid (HF.out q (by rw [HA.out, okPos, HL.out, show (q == 0) = true by rw [h0]; rfl]; rfl))
        clear h0
        go_wp2_with fail
        go_ret
        exact ⟨by rw [HE.out]; rfl, rfl⟩
      · have g0 : ((q : Int) == 0) = false := by rw [beq_eq_false_iff_ne]; omega
        have HG := Lib.hid (show (q == 0) = false by rw [beq_eq_false_iff_ne]; exact h0)
        clear h0
        have HE := Lib.hid (HF.out q (by rw [HA.out, okPos, HL.out, HM.out, HG.out]; rfl))
        go_wp2_with fail
        go_ret
        exact ⟨by rw [HE.out]; rfl, rfl⟩
    · have a1 : (s[q].toNat : Int) < 65 := (by omega); have a2 : (s[q].toNat : Int) < 97 := (by omega); have a3 : (s[q].toNat : Int) < 48 := (by omega); have b1 : (s[q].toNat : Int) ≤ 90 := (by omega); have b2 : (s[q].toNat : Int) ≤ 122 := (by omega); have b3 : (s[q].toNat : Int) ≤ 57 := (by omega)
      have e95 : ((s[q].toNat : Int) == 95) = false := by rw [beq_eq_false_iff_ne]; omega
      have e45 : ((s[q].toNat : Int) == 45) = true := by rw [beq_iff_eq]; omega
      have e46 : ((s[q].toNat : Int) == 46) = false := by rw [beq_eq_false_iff_ne]; omega
      have e47 : ((s[q].toNat : Int) == 47) = false := by rw [beq_eq_false_iff_ne]; omega
      have HL := Lib.hid (show letterB s[q] = false by rw [HLM.out.1]; exact decide_eq_false (by omega))
      have HM := Lib.hid (show moreB s[q] = true by rw [HLM.out.2]; exact decide_eq_true (by omega))
      clear hn hc h256 HLM
      by_cases h0 : q = 0
      · have g0 : ((q : Int) == 0) = true := by rw [h0]; rfl
        have HE := Lib.hid (HF.out q (by rw [HA.out, okPos, HL.out, show (q == 0) = true by rw [h0]; rfl]; rfl))
        clear h0
        go_wp2_with fail
        go_ret
        exact ⟨by rw [HE.out]; rfl, rfl⟩
      · have g0 : ((q : Int) == 0) = false := by rw [beq_eq_false_iff_ne]; omega
        have HG := Lib.hid (show (q == 0) = false by rw [beq_eq_false_iff_ne]; exact h0)
        clear h0
        go_wp2_with fail
        go_round
        case rel => exact ⟨q + 1, by go_num, by omega, Lib.hid (by rw [HA.out, okPos, HL.out, HM.out, HG.out]; rfl)⟩
        case measure => simp [intOf]; omega
    · have a1 : (s[q].toNat : Int) < 65 := (by omega); have a2 : (s[q].toNat : Int) < 97 := (by omega); have a3 : (s[q].toNat : Int) < 48 := (by omega); have b1 : (s[q].toNat : Int) ≤ 90 := (by omega); have b2 : (s[q].toNat : Int) ≤ 122 := (by omega); have b3 : (s[q].toNat : Int) ≤ 57 := (by omega)
      have e95 : ((s[q].toNat : Int) == 95) = false := by rw [beq_eq_false_iff_ne]; omega
      have e45 : ((s[q].toNat : Int) == 45) = false := by rw [beq_eq_false_iff_ne]; omega
      have e46 : ((s[q].toNat : Int) == 46) = true := by rw [beq_iff_eq]; omega
      have e47 : ((s[q].toNat : Int) == 47) = false := by rw [beq_eq_false_iff_ne]; omega
      have HL := Lib.hid (show letterB s[q] = false by rw [HLM.out.1]; exact decide_eq_false (by omega))
      have HM := Lib.hid (show moreB s[q] = true by rw [HLM.out.2]; exact decide_eq_true (by omega))
      clear hn hc h256 HLM
      by_cases h0 : q = 0
      · have g0 : ((q : Int) == 0) = true := by rw [h0]; rfl
        have HE := Lib.hid (HF.out q (by rw [HA.out, okPos, HL.out, show (q == 0) = true by rw [h0]; rfl]; rfl))
        clear h0
        go_wp2_with fail
        go_ret
        exact ⟨by rw [HE.out]; rfl, rfl⟩
      · have g0 : ((q : Int) == 0) = false := by rw [beq_eq_false_iff_ne]; omega
        have HG := Lib.hid (show (q == 0) = false by rw [beq_eq_false_iff_ne]; exact h0)
        clear h0
        go_wp2_with fail
        go_round
        case rel => exact ⟨q + 1, by go_num, by omega, Lib.hid (by rw [HA.out, okPos, HL.out, HM.out, HG.out]; rfl)⟩
        case measure => simp [intOf]; omega
    · have a1 : (s[q].toNat : Int) < 65 := (by omega); have a2 : (s[q].toNat : Int) < 97 := (by omega); have a3 : (s[q].toNat : Int) < 48 := (by omega); have b1 : (s[q].toNat : Int) ≤ 90 := (by omega); have b2 : (s[q].toNat : Int) ≤ 122 := (by omega); have b3 : (s[q].toNat : Int) ≤ 57 := (by omega)
      have e95 : ((s[q].toNat : Int) == 95) = false := by rw [beq_eq_false_iff_ne]; omega
      have e45 : ((s[q].toNat : Int) == 45) = false := by rw [beq_eq_false_iff_ne]; omega
      have e46 : ((s[q].toNat : Int) == 46) = false := by rw [beq_eq_false_iff_ne]; omega
      have e47 : ((s[q].toNat : Int) == 47) = true := by rw [beq_iff_eq]; omega
      have HL := Lib.hid (show letterB s[q] = false by rw [HLM.out.1]; exact decide_eq_false (by omega))
      have HM := Lib.hid (show moreB s[q] = true by rw [HLM.out.2]; exact decide_eq_true (by omega))
      clear hn hc h256 HLM
      by_cases h0 : q = 0
      · have g0 : ((q : Int) == 0) = true := by rw [h0]; rfl
        have HE := Lib.hid (HF.out q (by rw [HA.out, okPos, HL.out, show (q == 0) = true by rw [h0]; rfl]; rfl))
        clear h0
        go_wp2_with fail
        go_ret
        exact ⟨by rw [HE.out]; rfl, rfl⟩
      · have g0 : ((q : Int) == 0) = false := by rw [beq_eq_false_iff_ne]; omega
        have HG := Lib.hid (show (q == 0) = false by rw [beq_eq_false_iff_ne]; exact h0)
        clear h0
        go_wp2_with fail
        go_round
        case rel => exact ⟨q + 1, by go_num, by omega, Lib.hid (by rw [HA.out, okPos, HL.out, HM.out, HG.out]; rfl)⟩
        case measure => simp [intOf]; omega
    · have a1 : (s[q].toNat : Int) < 65 := (by omega); have a2 : (s[q].toNat : Int) < 97 := (by omega); have a3 : (48 : Int) ≤ s[q].toNat := (by omega); have b1 : (s[q].toNat : Int) ≤ 90 := (by omega); have b2 : (s[q].toNat : Int) ≤ 122 := (by omega); have b3 : (s[q].toNat : Int) ≤ 57 := (by omega)
      have e95 : ((s[q].toNat : Int) == 95) = false := by rw [beq_eq_false_iff_ne]; omega
      have e45 : ((s[q].toNat : Int) == 45) = false := by rw [beq_eq_false_iff_ne]; omega
      have e46 : ((s[q].toNat : Int) == 46) = false := by rw [beq_eq_false_iff_ne]; omega
      have e47 : ((s[q].toNat : Int) == 47) = false := by rw [beq_eq_false_iff_ne]; omega
      have HL := Lib.hid (show letterB s[q] = false by rw [HLM.out.1]; exact decide_eq_false (by omega))
      have HM := Lib.hid (show moreB s[q] = true by rw [HLM.out.2]; exact decide_eq_true (by omega))
      clear hn hc h256 HLM
      by_cases h0 : q = 0
      · have g0 : ((q : Int) == 0) = true := by rw [h0]; rfl
        have HE := Lib.hid (HF.out q (by rw [HA.out, okPos, HL.out, show (q == 0) = true by rw [h0]; rfl]; rfl))
        clear h0
        go_wp2_with fail
        go_ret
        exact ⟨by rw [HE.out]; rfl, rfl⟩
      · have g0 : ((q : Int) == 0) = false := by rw [beq_eq_false_iff_ne]; omega
        have HG := Lib.hid (show (q == 0) = false by rw [beq_eq_false_iff_ne]; exact h0)
        clear h0
        go_wp2_with fail
        go_round
        case rel => exact ⟨q + 1, by go_num, by omega, Lib.hid (by rw [HA.out, okPos, HL.out, HM.out, HG.out]; rfl)⟩
        case measure => simp [intOf]; omega
    · have a1 : (s[q].toNat : Int) < 65 := (by omega); have a2 : (s[q].toNat : Int) < 97 := (by omega); have a3 : (48 : Int) ≤ s[q].toNat := (by omega); have b1 : (s[q].toNat : Int) ≤ 90 := (by omega); have b2 : (s[q].toNat : Int) ≤ 122 := (by omega); have b3 : ¬ (s[q].toNat : Int) ≤ 57 := (by omega)
      have e95 : ((s[q].toNat : Int) == 95) = false := by rw [beq_eq_false_iff_ne]; omega
      have e45 : ((s[q].toNat : Int) == 45) = false := by rw [beq_eq_false_iff_ne]; omega
      have e46 : ((s[q].toNat : Int) == 46) = false := by rw [beq_eq_false_iff_ne]; omega
      have e47 : ((s[q].toNat : Int) == 47) = false := by rw [beq_eq_false_iff_ne]; omega
      have HL := Lib.hid (show letterB s[q] = false by rw [HLM.out.1]; exact decide_eq_false (by omega))
      have HM := Lib.hid (show moreB s[q] = false by rw [HLM.out.2]; exact decide_eq_false (by omega))
      clear hn hc h256 HLM
      by_cases h0 : q = 0
      · have g0 : ((q : Int) == 0) = true := by rw [h0]; rfl
        have HE := Lib.hid (HF.out q (by rw [HA.out, okPos, HL.out, show (q == 0) = true by rw [h0]; rfl]; rfl))
        clear h0
        go_wp2_with fail
        go_ret
        exact ⟨by rw [HE.out]; rfl, rfl⟩
      · have g0 : ((q : Int) == 0) = false := by rw [beq_eq_false_iff_ne]; omega
        have HG := Lib.hid (show (q == 0) = false by rw [beq_eq_false_iff_ne]; exact h0)
        clear h0
        have HE := Lib.hid (HF.out q (by rw [HA.out, okPos, HL.out, HM.out, HG.out]; rfl))
        go_wp2_with fail
        go_ret
        exact ⟨by rw [HE.out]; rfl, rfl⟩
    · have a1 : (65 : Int) ≤ s[q].toNat := (by omega); have a2 : (s[q].toNat : Int) < 97 := (by omega); have a3 : (48 : Int) ≤ s[q].toNat := (by omega); have b1 : (s[q].toNat : Int) ≤ 90 := (by omega); have b2 : (s[q].toNat : Int) ≤ 122 := (by omega); have b3 : ¬ (s[q].toNat : Int) ≤ 57 := (by omega)
      have e95 : ((s[q].toNat : Int) == 95) = false := by rw [beq_eq_false_iff_ne]; omega
      have e45 : ((s[q].toNat : Int) == 45) = false := by rw [beq_eq_false_iff_ne]; omega
      have e46 : ((s[q].toNat : Int) == 46) = false := by rw [beq_eq_false_iff_ne]; omega
      have e47 : ((s[q].toNat : Int) == 47) = false := by rw [beq_eq_false_iff_ne]; omega
      have HL := Lib.hid (show letterB s[q] = true by rw [HLM.out.1]; exact decide_eq_true (by omega))
      have HM := Lib.hid (show moreB s[q] = false by rw [HLM.out.2]; exact decide_eq_false (by omega))
      clear hn hc h256 HLM
      have HX := Lib.hid (show okPos q s[q] = true by rw [okPos, HL.out]; rfl)
      clear HM HL
      go_wp2_with fail
      go_round
      case rel => exact ⟨q + 1, by go_num, by omega, Lib.hid (by rw [HA.out, HX.out])⟩
      case measure => simp [intOf]; omega
    · have a1 : (65 : Int) ≤ s[q].toNat := (by omega); have a2 : (s[q].toNat : Int) < 97 := (by omega); have a3 : (48 : Int) ≤ s[q].toNat := (by omega); have b1 : ¬ (s[q].toNat : Int) ≤ 90 := (by omega); have b2 : (s[q].toNat : Int) ≤ 122 := (by omega); have b3 : ¬ (s[q].toNat : Int) ≤ 57 := (by omega)
      have e95 : ((s[q].toNat : Int) == 95) = false := by rw [beq_eq_false_iff_ne]; omega
      have e45 : ((s[q].toNat : Int) == 45) = false := by rw [beq_eq_false_iff_ne]; omega
      have e46 : ((s[q].toNat : Int) == 46) = false := by rw [beq_eq_false_iff_ne]; omega
      have e47 : ((s[q].toNat : Int) == 47) = false := by rw [beq_eq_false_iff_ne]; omega
      have HL := Lib.hid (show letterB s[q] = false by rw [HLM.out.1]; exact decide_eq_false (by omega))
      have HM := Lib.hid (show moreB s[q] = false by rw [HLM.out.2]; exact decide_eq_false (by omega))
      clear hn hc h256 HLM
      by_cases h0 : q = 0
      · have g0 : ((q : Int) == 0) = true := by rw [h0]; rfl
        have HE := Lib.hid (HF.out q (by rw [HA.out, okPos, HL.out, show (q == 0) = true by rw [h0]; rfl]; rfl))
        clear h0
        go_wp2_with fail
        go_ret
        exact ⟨by rw [HE.out]; rfl, rfl⟩
      · have g0 : ((q : Int) == 0) = false := by rw [beq_eq_false_iff_ne]; omega
        have HG := Lib.hid (show (q == 0) = false by rw [beq_eq_false_iff_ne]; exact h0)
        clear h0
        have HE := Lib.hid (HF.out q (by rw [HA.out, okPos, HL.out, HM.out, HG.out]; rfl))
        go_wp2_with fail
        go_ret
        exact ⟨by rw [HE.out]; rfl, rfl⟩
    · have a1 : (65 : Int) ≤ s[q].toNat := (by omega); have a2 : (s[q].toNat : Int) < 97 := (by omega); have a3 : (48 : Int) ≤ s[q].toNat := (by omega); have b1 : ¬ (s[q].toNat : Int) ≤ 90 := (by omega); have b2 : (s[q].toNat : Int) ≤ 122 := (by omega); have b3 : ¬ (s[q].toNat : Int) ≤ 57 := (by omega)
      have e95 : ((s[q].toNat : Int) == 95) = true := by rw [beq_iff_eq]; omega
      have e45 : ((s[q].toNat : Int) == 45) = false := by rw [beq_eq_false_iff_ne]; omega
      have e46 : ((s[q].toNat : Int) == 46) = false := by rw [beq_eq_false_iff_ne]; omega
      have e47 : ((s[q].toNat : Int) == 47) = false := by rw [beq_eq_false_iff_ne]; omega
      have HL := Lib.hid (show letterB s[q] = false by rw [HLM.out.1]; exact decide_eq_false (by omega))
      have HM := Lib.hid (show moreB s[q] = true by rw [HLM.out.2]; exact decide_eq_true (by omega))
      clear hn hc h256 HLM
      by_cases h0 : q = 0
      · have g0 : ((q : Int) == 0) = true := by rw [h0]; rfl
        have HE := Lib.hid (HF.out q (by rw [HA.out, okPos, HL.out, show (q == 0) = true by rw [h0]; rfl]; rfl))
        clear h0
        go_wp2_with fail
        go_ret
        exact ⟨by rw [HE.out]; rfl, rfl⟩
      · have g0 : ((q : Int) == 0) = false := by rw [beq_eq_false_iff_ne]; omega
        have HG := Lib.hid (show (q == 0) = false by rw [beq_eq_false_iff_ne]; exact h0)
        clear h0
        go_wp2_with fail
        go_round
        case rel => exact ⟨q + 1, by go_num, by omega, Lib.hid (by rw [HA.out, okPos, HL.out, HM.out, HG.out]; rfl)⟩
        case measure => simp [intOf]; omega
    · have a1 : (65 : Int) ≤ s[q].toNat := (by omega); have a2 : (s[q].toNat : Int) < 97 := (by omega); have a3 : (48 : Int) ≤ s[q].toNat := (by omega); have b1 : ¬ (s[q].toNat : Int) ≤ 90 := (by omega); have b2 : (s[q].toNat : Int) ≤ 122 := (by omega); have b3 : ¬ (s[q].toNat : Int) ≤ 57 := (by omega)
      have e95 : ((s[q].toNat : Int) == 95) = false := by rw [beq_eq_false_iff_ne]; omega
      have e45 : ((s[q].toNat : Int) == 45) = false := by rw [beq_eq_false_iff_ne]; omega
      have e46 : ((s[q].toNat : Int) == 46) = false := by rw [beq_eq_false_iff_ne]; omega
      have e47 : ((s[q].toNat : Int) == 47) = false := by rw [beq_eq_false_iff_ne]; omega
      have HL := Lib.hid (show letterB s[q] = false by rw [HLM.out.1]; exact decide_eq_false (by omega))
      have HM := Lib.hid (show moreB s[q] = false by rw [HLM.out.2]; exact decide_eq_false (by omega))
      clear hn hc h256 HLM
      by_cases h0 : q = 0
      · have g0 : ((q : Int) == 0) = true := by rw [h0]; rfl
        have HE := Lib.hid (HF.out q (by rw [HA.out, okPos, HL.out, show (q == 0) = true by rw [h0]; rfl]; rfl))
        clear h0
        go_wp2_with fail
        go_ret
        exact ⟨by rw [HE.out]; rfl, rfl⟩
      · have g0 : ((q : Int) == 0) = false := by rw [beq_eq_false_iff_ne]; omega
        have HG := Lib.hid (show (q == 0) = false by rw [beq_eq_false_iff_ne]; exact h0)
        clear h0
        have HE := Lib.hid (HF.out q (by rw [HA.out, okPos, HL.out, HM.out, HG.out]; rfl))
        go_wp2_with fail
        go_ret
        exact ⟨by rw [HE.out]; rfl, rfl⟩
    · have a1 : (65 : Int) ≤ s[q].toNat := (by omega); have a2 : (97 : Int) ≤ s[q].toNat := (by omega); have a3 : (48 : Int) ≤ s[q].toNat := (by omega); have b1 : ¬ (s[q].toNat : Int) ≤ 90 := (by omega); have b2 : (s[q].toNat : Int) ≤ 122 := (by omega); have b3 : ¬ (s[q].toNat : Int) ≤ 57 := (by omega)
      have e95 : ((s[q].toNat : Int) == 95) = false := by rw [beq_eq_false_iff_ne]; omega
      have e45 : ((s[q].toNat : Int) == 45) = false := by rw [beq_eq_false_iff_ne]; omega
      have e46 : ((s[q].toNat : Int) == 46) = false := by rw [beq_eq_false_iff_ne]; omega
      have e47 : ((s[q].toNat : Int) == 47) = false := by rw [beq_eq_false_iff_ne]; omega
      have HL := Lib.hid (show letterB s[q] = true by rw [HLM.out.1]; exact decide_eq_true (by omega))
      have HM := Lib.hid (show moreB s[q] = false by rw [HLM.out.2]; exact decide_eq_false (by omega))
      clear hn hc h256 HLM
      have HX := Lib.hid (show okPos q s[q] = true by rw [okPos, HL.out]; rfl)
      clear HM HL
      go_wp2_with fail
      go_round
      case rel => exact ⟨q + 1, by go_num, by omega, Lib.hid (by rw [HA.out, HX.out])⟩
      case measure => simp [intOf]; omega
    · have a1 : (65 : Int) ≤ s[q].toNat := (by omega); have a2 : (97 : Int) ≤ s[q].toNat := (by omega); have a3 : (48 : Int) ≤ s[q].toNat := (by omega); have b1 : ¬ (s[q].toNat : Int) ≤ 90 := (by omega); have b2 : ¬ (s[q].toNat : Int) ≤ 122 := (by omega); have b3 : ¬ (s[q].toNat : Int) ≤ 57 := (by omega)
      have e95 : ((s[q].toNat : Int) == 95) = false := by rw [beq_eq_false_iff_ne]; omega
      have e45 : ((s[q].toNat : Int) == 45) = false := by rw [beq_eq_false_iff_ne]; omega
      have e46 : ((s[q].toNat : Int) == 46) = false := by rw [beq_eq_false_iff_ne]; omega
      have e47 : ((s[q].toNat : Int) == 47) = false := by rw [beq_eq_false_iff_ne]; omega
      have HL := Lib.hid (show letterB s[q] = false by rw [HLM.out.1]; exact decide_eq_false (by omega))
      have HM := Lib.hid (show moreB s[q] = false by rw [HLM.out.2]; exact decide_eq_false (by omega))
      clear hn hc h256 HLM
      by_cases h0 : q = 0
      · have g0 : ((q : Int) == 0) = true := by rw [h0]; rfl
        have HE := Lib.hid (HF.out q (by rw [HA.out, okPos, HL.out, show (q == 0) = true by rw [h0]; rfl]; rfl))
        clear h0
        go_wp2_with fail
        go_ret
        exact ⟨by rw [HE.out]; rfl, rfl⟩
      · have g0 : ((q : Int) == 0) = false := by rw [beq_eq_false_iff_ne]; omega
        have HG := Lib.hid (show (q == 0) = false by rw [beq_eq_false_iff_ne]; exact h0)
        clear h0
        have HE := Lib.hid (HF.out q (by rw [HA.out, okPos, HL.out, HM.out, HG.out]; rfl))
        go_wp2_with fail
        go_ret
        exact ⟨by rw [HE.out]; rfl, rfl⟩
end Go.Proofs.YtjnbjehcmckdeaaDoor
