/- Which texts, and which keys, may be: the program's two functions and the reference's two. -/
import Derived.Test.YtgbbojnigicnoaaDoorRows
import Derived.Test.YtgbbojnigicnoaaDoorShelf
import Derived.Test.YtgbbojnigicnoaaDoorKeys
namespace Go.Proofs.YtgbbojnigicnoaaDoor
open Go.RowKit

/-- How a byte stands to the bounds that the tests ask. -/
theorem byte_cases (n : Nat) : (n < 9) ∨ n = 9 ∨ n = 10 ∨ (10 < n ∧ n < 32) ∨ (32 ≤ n ∧ n ≤ 126) ∨ 126 < n := by omega

set_option maxHeartbeats 800000 in
theorem rtext (s : ByteArray) (w : World) (hs : s.size ≤ 140737488351232) :
    Calls Tryd.prog 43 #[.string s] w fun e w' => e = .returned (.bool (textB s)) ∧ w = w' := by
  go_enter Tryd.func43, Tryd.ntmps43
  go_wp2_with fail
  go_loop [3] (fun i => ∃ q : Nat, q ≤ s.size ∧ i = .int .i64 q ∧ Hid (∀ j (h : j < s.size), j < q → okText s[j] = true)) (fun i => s.size - (intOf i).toNat)
  case atStart => exact ⟨0, Nat.zero_le _, rfl, fun j h hj => by omega⟩
  case round =>
    obtain ⟨q, hq, rfl, hall⟩ := hrel
    by_cases hlt : q < s.size
    · have h256 := UInt8.toNat_lt s[q]
      have hok : okText s[q] = (decide (32 ≤ s[q].toNat ∧ s[q].toNat ≤ 126) || decide (s[q].toNat = 9) || decide (s[q].toNat = 10)) := rfl
      have hno : okText s[q] = false → textB s = false := fun h => by rw [textB, all_not hlt h]; rfl
      have hyes : okText s[q] = true → ∀ j (h : j < s.size), j < q + 1 → okText s[j] = true := fun hk j h hj => by
        rcases Nat.lt_or_ge j q with hj' | hj'
        · exact hall.out j h hj'
        · obtain rfl : j = q := by omega
          exact hk
      have HOK := Lib.hid hok
      have HNO := Lib.hid hno
      have HYES := Lib.hid hyes
      clear hok hno hyes hall
      rcases byte_cases s[q].toNat with h | h | h | h | h | h
      · have hz : (s[q].toNat : Int) < 9 := by omega
        have g9 : ((s[q].toNat : Int) != 9) = true := by rw [bne_iff_ne]; omega
        have g10 : ((s[q].toNat : Int) != 10) = true := by rw [bne_iff_ne]; omega
        have HF := Lib.hid (HNO.out (by rw [HOK.out]; simp; omega))
        clear h
        go_wp2_with fail
        go_ret
        exact ⟨by rw [HF.out]; rfl, rfl⟩
      · have hz : (s[q].toNat : Int) = 9 := by omega
        have HT := Lib.hid (HYES.out (by rw [HOK.out]; simp; omega))
        clear h
        go_wp2_with fail
        go_round
        case rel => exact ⟨q + 1, by omega, by go_num, HT.out⟩
        case measure => simp [intOf]; omega
      · have hz : (s[q].toNat : Int) = 10 := by omega
        have HT := Lib.hid (HYES.out (by rw [HOK.out]; simp; omega))
        clear h
        go_wp2_with fail
        go_round
        case rel => exact ⟨q + 1, by omega, by go_num, HT.out⟩
        case measure => simp [intOf]; omega
      · have hz : (10 : Int) < s[q].toNat := by omega
        have hz2 : (s[q].toNat : Int) < 32 := by omega
        have g9 : ((s[q].toNat : Int) != 9) = true := by rw [bne_iff_ne]; omega
        have g10 : ((s[q].toNat : Int) != 10) = true := by rw [bne_iff_ne]; omega
        have HF := Lib.hid (HNO.out (by rw [HOK.out]; simp; omega))
        clear h
        go_wp2_with fail
        go_ret
        exact ⟨by rw [HF.out]; rfl, rfl⟩
      · have hz : (32 : Int) ≤ s[q].toNat := by omega
        have hz2 : (s[q].toNat : Int) ≤ 126 := by omega
        have g9 : ((s[q].toNat : Int) != 9) = true := by rw [bne_iff_ne]; omega
        have g10 : ((s[q].toNat : Int) != 10) = true := by rw [bne_iff_ne]; omega
        have HT := Lib.hid (HYES.out (by rw [HOK.out]; simp; omega))
        clear h
        go_wp2_with fail
        go_round
        case rel => exact ⟨q + 1, by omega, by go_num, HT.out⟩
        case measure => simp [intOf]; omega
      · have hz : (126 : Int) < s[q].toNat := by omega
        have g9 : ((s[q].toNat : Int) != 9) = true := by rw [bne_iff_ne]; omega
        have g10 : ((s[q].toNat : Int) != 10) = true := by rw [bne_iff_ne]; omega
        have HF := Lib.hid (HNO.out (by rw [HOK.out]; simp; omega))
        clear h
        go_wp2_with fail
        go_ret
        exact ⟨by rw [HF.out]; rfl, rfl⟩
    · obtain rfl : q = s.size := by omega
      have HS := Lib.hid (show textB s = decide ((s.size : Int) ≤ 65536) by rw [textB, all_of_get (fun i hi => hall.out i hi hi)]; simp; omega)
      clear hall
      go_wp2_with fail
      go_ret
      exact ⟨by rw [HS.out]; rfl, rfl⟩

set_option maxHeartbeats 800000 in
theorem rkey (s : ByteArray) (w : World) (hs : s.size ≤ 140737488351232) :
    Calls Tryd.prog 44 #[.string s] w fun e w' => e = .returned (.bool (keyB s)) ∧ w = w' := by
  go_enter Tryd.func44, Tryd.ntmps44
  go_wp2_with fail
  go_loop [3] (fun i => ∃ q : Nat, q ≤ s.size ∧ i = .int .i64 q ∧ Hid (∀ j (h : j < s.size), j < q → okKey s[j] = true)) (fun i => s.size - (intOf i).toNat)
  case atStart => exact ⟨0, Nat.zero_le _, rfl, fun j h hj => by omega⟩
  case round =>
    obtain ⟨q, hq, rfl, hall⟩ := hrel
    by_cases hlt : q < s.size
    · have h256 := UInt8.toNat_lt s[q]
      have hok : okKey s[q] = decide (32 ≤ s[q].toNat ∧ s[q].toNat ≤ 126) := rfl
      have hno : okKey s[q] = false → keyB s = false := fun h => by rw [keyB, all_not hlt h]; rfl
      have hyes : okKey s[q] = true → ∀ j (h : j < s.size), j < q + 1 → okKey s[j] = true := fun hk j h hj => by
        rcases Nat.lt_or_ge j q with hj' | hj'
        · exact hall.out j h hj'
        · obtain rfl : j = q := by omega
          exact hk
      have HOK := Lib.hid hok
      have HNO := Lib.hid hno
      have HYES := Lib.hid hyes
      clear hok hno hyes hall
      rcases byte_cases s[q].toNat with h | h | h | h | h | h
      · have hz : (s[q].toNat : Int) < 9 := by omega
        have g9 : ((s[q].toNat : Int) != 9) = true := by rw [bne_iff_ne]; omega
        have g10 : ((s[q].toNat : Int) != 10) = true := by rw [bne_iff_ne]; omega
        have HF := Lib.hid (HNO.out (by rw [HOK.out]; simp; omega))
        clear h
        go_wp2_with fail
        go_ret
        exact ⟨by rw [HF.out]; rfl, rfl⟩
      · have hz : (s[q].toNat : Int) = 9 := by omega
        have HF := Lib.hid (HNO.out (by rw [HOK.out]; simp; omega))
        clear h
        go_wp2_with fail
        go_ret
        exact ⟨by rw [HF.out]; rfl, rfl⟩
      · have hz : (s[q].toNat : Int) = 10 := by omega
        have HF := Lib.hid (HNO.out (by rw [HOK.out]; simp; omega))
        clear h
        go_wp2_with fail
        go_ret
        exact ⟨by rw [HF.out]; rfl, rfl⟩
      · have hz : (10 : Int) < s[q].toNat := by omega
        have hz2 : (s[q].toNat : Int) < 32 := by omega
        have g9 : ((s[q].toNat : Int) != 9) = true := by rw [bne_iff_ne]; omega
        have g10 : ((s[q].toNat : Int) != 10) = true := by rw [bne_iff_ne]; omega
        have HF := Lib.hid (HNO.out (by rw [HOK.out]; simp; omega))
        clear h
        go_wp2_with fail
        go_ret
        exact ⟨by rw [HF.out]; rfl, rfl⟩
      · have hz : (32 : Int) ≤ s[q].toNat := by omega
        have hz2 : (s[q].toNat : Int) ≤ 126 := by omega
        have g9 : ((s[q].toNat : Int) != 9) = true := by rw [bne_iff_ne]; omega
        have g10 : ((s[q].toNat : Int) != 10) = true := by rw [bne_iff_ne]; omega
        have HT := Lib.hid (HYES.out (by rw [HOK.out]; simp; omega))
        clear h
        go_wp2_with fail
        go_round
        case rel => exact ⟨q + 1, by omega, by go_num, HT.out⟩
        case measure => simp [intOf]; omega
      · have hz : (126 : Int) < s[q].toNat := by omega
        have g9 : ((s[q].toNat : Int) != 9) = true := by rw [bne_iff_ne]; omega
        have g10 : ((s[q].toNat : Int) != 10) = true := by rw [bne_iff_ne]; omega
        have HF := Lib.hid (HNO.out (by rw [HOK.out]; simp; omega))
        clear h
        go_wp2_with fail
        go_ret
        exact ⟨by rw [HF.out]; rfl, rfl⟩
    · obtain rfl : q = s.size := by omega
      have HS := Lib.hid (show keyB s = (decide (1 ≤ s.size) && decide (s.size ≤ 256)) by rw [keyB, all_of_get (fun i hi => hall.out i hi hi)]; simp)
      clear hall
      by_cases h1 : 1 ≤ s.size
      · have h1' : (1 : Int) ≤ s.size := by omega
        go_wp2_with fail
        go_ret
        exact ⟨by rw [HS.out]; simp [h1]; omega, rfl⟩
      · have h1' : (s.size : Int) < 1 := by omega
        go_wp2_with fail
        go_ret
        exact ⟨by rw [HS.out]; simp [h1], rfl⟩

theorem textB_of_keyB {s : ByteArray} (h : keyB s = true) : textB s = true := by
  simp only [keyB, textB, Bool.and_eq_true, decide_eq_true_eq, List.all_eq_true] at h ⊢
  refine ⟨fun c hc => ?_, by omega⟩
  have := h.1.1 c hc
  simp only [okKey, decide_eq_true_eq] at this
  simp only [okText, Bool.or_eq_true, decide_eq_true_eq]
  exact .inl (.inl this)
theorem index_ge (l : List UInt8) (c : UInt8) : -1 ≤ Lib.indexByte l c := by
  induction l with
  | nil => simp [Lib.indexByte]
  | cons b l ih => simp only [Lib.indexByte]; split <;> (try split) <;> omega
theorem index_neg (l : List UInt8) (c : UInt8) : (0 ≤ Lib.indexByte l c) ↔ c ∈ l := by
  induction l with
  | nil => simp [Lib.indexByte]
  | cons b l ih =>
    have := index_ge l c
    simp only [Lib.indexByte, List.mem_cons]
    by_cases h : b = c
    · simp [h]
    · have h' : ¬ c = b := fun e => h e.symm
      simp only [beq_iff_eq, h, h', if_false, false_or, ← ih]
      split <;> omega

theorem keyB_of {s : ByteArray} (h1 : 1 ≤ s.size) (h2 : s.size ≤ 256) (ht : textB s = true) (h10 : ¬ (10 : UInt8) ∈ s.data.toList) (h9 : ¬ (9 : UInt8) ∈ s.data.toList) : keyB s = true := by
  simp only [keyB, textB, Bool.and_eq_true, decide_eq_true_eq, List.all_eq_true] at ht ⊢
  refine ⟨⟨fun c hc => ?_, h1⟩, h2⟩
  have := ht.1 c hc
  simp only [okText, Bool.or_eq_true, decide_eq_true_eq] at this
  simp only [okKey, decide_eq_true_eq]
  rcases this with (h | h) | h
  · exact h
  · exact absurd (show c = 9 from UInt8.toNat_inj.1 h) (fun e => h9 (e ▸ hc))
  · exact absurd (show c = 10 from UInt8.toNat_inj.1 h) (fun e => h10 (e ▸ hc))
theorem keyB_not_mem {s : ByteArray} {c : UInt8} (hc : c ∈ s.data.toList) (h : okKey c = false) : keyB s = false := by
  cases hk : keyB s with
  | false => rfl
  | true =>
    simp only [keyB, Bool.and_eq_true, decide_eq_true_eq, List.all_eq_true] at hk
    have := hk.1.1 c hc
    rw [h] at this; cases this

end Go.Proofs.YtgbbojnigicnoaaDoor
