/- Which texts, and which keys, may be: the program's two functions and the reference's two. -/
import Derived.Test.YtdgeegfoocoohaaDoorRows
import Derived.Test.YtdgeegfoocoohaaDoorShelf
import Derived.Test.YtdgeegfoocoohaaDoorKeys
namespace Go.Proofs.YtdgeegfoocoohaaDoor
open Go.RowKit

/-- How a byte stands to the bounds that the tests ask. -/
theorem byte_cases (n : Nat) : (n < 9) ∨ n = 9 ∨ n = 10 ∨ (10 < n ∧ n < 32) ∨ (32 ≤ n ∧ n ≤ 126) ∨ 126 < n := by omega

set_option maxHeartbeats 800000 in
theorem ttext (s : ByteArray) (w : World) (hs : s.size ≤ 140737488351232) :
    Calls Tryd.prog 42 #[.string s] w fun e w' => e = .returned (.bool (textB s)) ∧ w = w' := by
  go_enter Tryd.func42, Tryd.ntmps42
  go_wp2_with fail
  go_loop [7] (fun i => ∃ q : Nat, q ≤ s.size ∧ i = .int .i64 q ∧ Hid (∀ j (h : j < s.size), j < q → okText s[j] = true)) (fun i => s.size - (intOf i).toNat)
  case atStart => exact ⟨0, Nat.zero_le _, rfl, fun j h hj => by omega⟩
  case round =>
    obtain ⟨q, hq, rfl, hall⟩ := hrel
    by_cases hlt : q < s.size
    · have h256 := UInt8.toNat_lt s[q]
      have hok : okText s[q] = (decide (32 ≤ s[q].toNat ∧ s[q].toNat ≤ 126) || decide (s[q].toNat = 9) || decide (s[q].toNat = 10)) := rfl
      have hno : okText s[q] = false → textB s = false := fun h => by rw [textB, all_not hlt h]; rfl
      have hyes : okText s[q] = true → ∀ j (h : j < s.size), j < q + 1 → okText s[j] = true := fun hk j h hj => by
        rcases Nat.lt_or_ge j q with hj' | hj'
        · exact hall.out j h hj'
        · obtain rfl : j = q := by omega
          exact hk
      have HOK := Lib.hid hok
      have HNO := Lib.hid hno
      have HYES := Lib.hid hyes
      clear hok hno hyes hall
      rcases byte_cases s[q].toNat with h | h | h | h | h | h
      · have hz : (s[q].toNat : Int) < 9 := by omega
        have g9 : ((s[q].toNat : Int) != 9) = true := by rw [bne_iff_ne]; omega
        have g10 : ((s[q].toNat : Int) != 10) = true := by rw [bne_iff_ne]; omega
        have HF := Lib.hid (HNO.out (by rw [HOK.out]; simp; omega))
        clear h
        go_wp2_with fail
        go_ret
        exact ⟨by rw [HF.out]; rfl, rfl⟩
      · have hz : (s[q].toNat : Int) = 9 := by omega
        have HT := Lib.hid (HYES.out (by rw [HOK.out]; simp; omega))
        clear h
        go_wp2_with fail
        go_round
        case rel => exact ⟨q + 1, by omega, by go_num, HT.out⟩
        case measure => simp [intOf]; omega
      · have hz : (s[q].toNat : Int) = 10 := by omega
        have HT := Lib.hid (HYES.out (by rw [HOK.out]; simp; omega))
        clear h
        go_wp2_with fail
        go_round
        case rel => exact ⟨q + 1, by omega, by go_num, HT.out⟩
        case measure => simp [intOf]; omega
      · have hz : (10 : Int) < s[q].toNat := by omega
        have hz2 : (s[q].toNat : Int) < 32 := by omega
        have g9 : ((s[q].toNat : Int) != 9) = true := by rw [bne_iff_ne]; omega
        have g10 : ((s[q].toNat : Int) != 10) = true := by rw [bne_iff_ne]; omega
        have HF := Lib.hid (HNO.out (by rw [HOK.out]; simp; omega))
        clear h
        go_wp2_with fail
        go_ret
        exact ⟨by rw [HF.out]; rfl, rfl⟩
      · have hz : (32 : Int) ≤ s[q].toNat := by omega
        have hz2 : (s[q].toNat : Int) ≤ 126 := by omega
        have g9 : ((s[q].toNat : Int) != 9) = true := by rw [bne_iff_ne]; omega
        have g10 : ((s[q].toNat : Int) != 10) = true := by rw [bne_iff_ne]; omega
        have HT := Lib.hid (HYES.out (by rw [HOK.out]; simp; omega))
        clear h
        go_wp2_with fail
        go_round
        case rel => exact ⟨q + 1, by omega, by go_num, HT.out⟩
        case measure => simp [intOf]; omega
      · have hz : (126 : Int) < s[q].toNat := by omega
        have g9 : ((s[q].toNat : Int) != 9) = true := by rw [bne_iff_ne]; omega
        have g10 : ((s[q].toNat : Int) != 10) = true := by rw [bne_iff_ne]; omega
        have HF := Lib.hid (HNO.out (by rw [HOK.out]; simp; omega))
        clear h
        go_wp2_with fail
        go_ret
        exact ⟨by rw [HF.out]; rfl, rfl⟩
    · obtain rfl : q = s.size := by omega
      have HS := Lib.hid (show textB s = decide ((s.size : Int) ≤ 65536) by rw [textB, all_of_get (fun i hi => hall.out i hi hi)]; simp; omega)
      clear hall
      go_wp2_with fail
      go_ret
      exact ⟨by rw [HS.out]; rfl, rfl⟩

theorem textB_of_keyB {s : ByteArray} (h : keyB s = true) : textB s = true := by
  simp only [keyB, textB, Bool.and_eq_true, decide_eq_true_eq, List.all_eq_true] at h ⊢
  refine ⟨fun c hc => ?_, by omega⟩
  have := h.1.1 c hc
  simp only [okKey, decide_eq_true_eq] at this
  simp only [okText, Bool.or_eq_true, decide_eq_true_eq]
  exact .inl (.inl this)
theorem index_ge (l : List UInt8) (c : UInt8) : -1 ≤ Lib.indexByte l c := by
  induction l with
  | nil => simp [Lib.indexByte]
  | cons b l ih => simp only [Lib.indexByte]; split <;> (try split) <;> omega
theorem index_neg (l : List UInt8) (c : UInt8) : (0 ≤ Lib.indexByte l c) ↔ c ∈ l := by
  induction l with
  | nil => simp [Lib.indexByte]
  | cons b l ih =>
    have := index_ge l c
    simp only [Lib.indexByte, List.mem_cons]
    by_cases h : b = c
    · simp [h]
    · have h' : ¬ c = b := fun e => h e.symm
      simp only [beq_iff_eq, h, h', if_false, false_or, ← ih]
      split <;> omega

theorem contains1 (s : ByteArray) (c : UInt8) (w : World) : Calls Tryd.prog 36 #[.string s, .string ⟨#[c]⟩] w fun e w' => e = .returned (.bool (decide (c ∈ s.data.toList))) ∧ w = w' :=
  (Tryd.strings_Contains_one s c w).mono fun e w' h => ⟨by rw [h.1]; simp only [index_neg], h.2.symm⟩

theorem keyB_of {s : ByteArray} (h1 : 1 ≤ s.size) (h2 : s.size ≤ 256) (ht : textB s = true) (h10 : ¬ (10 : UInt8) ∈ s.data.toList) (h9 : ¬ (9 : UInt8) ∈ s.data.toList) : keyB s = true := by
  simp only [keyB, textB, Bool.and_eq_true, decide_eq_true_eq, List.all_eq_true] at ht ⊢
  refine ⟨⟨fun c hc => ?_, h1⟩, h2⟩
  have := ht.1 c hc
  simp only [okText, Bool.or_eq_true, decide_eq_true_eq] at this
  simp only [okKey, decide_eq_true_eq]
  rcases this with (h | h) | h
  · exact h
  · exact absurd (show c = 9 from UInt8.toNat_inj.1 h) (fun e => h9 (e ▸ hc))
  · exact absurd (show c = 10 from UInt8.toNat_inj.1 h) (fun e => h10 (e ▸ hc))
theorem keyB_not_mem {s : ByteArray} {c : UInt8} (hc : c ∈ s.data.toList) (h : okKey c = false) : keyB s = false := by
  cases hk : keyB s with
  | false => rfl
  | true =>
    simp only [keyB, Bool.and_eq_true, decide_eq_true_eq, List.all_eq_true] at hk
    have := hk.1.1 c hc
    rw [h] at this; cases this

set_option maxHeartbeats 800000 in
theorem tkey (s : ByteArray) (w : World) (hs : s.size ≤ 140737488351232) :
    Calls Tryd.prog 43 #[.string s] w fun e w' => e = .returned (.bool (keyB s)) ∧ w = w' := by
  have hnot : ∀ (x : Bool) (w : World), (Op.unary .not (.bool x)).run Tryd.prog w = .ok (.bool (!x)) w := fun _ _ => rfl
  by_cases h0 : s.size = 0
  · obtain rfl : s = ⟨#[]⟩ := by obtain ⟨d⟩ := s; obtain ⟨l⟩ := d; simp [ByteArray.size] at h0; subst h0; rfl
    have HK := Lib.hid (show keyB ⟨#[]⟩ = false from rfl)
    clear h0 hs
    go_enter Tryd.func43, Tryd.ntmps43
    go_wp2_with fail
    go_ret
    exact ⟨by rw [HK.out]; rfl, rfl⟩
  have hne : s.toList.isEmpty = false := by rw [ByteArray.toList_eq]; obtain ⟨⟨l⟩⟩ := s; cases l with | nil => simp [ByteArray.size] at h0 | cons => rfl
  have hne2 : (s.toList == []) = false := by rw [ByteArray.toList_eq]; obtain ⟨⟨l⟩⟩ := s; cases l with | nil => simp [ByteArray.size] at h0 | cons => rfl
  by_cases h1 : ¬ s.size ≤ 256
  · have h1' : (256 : Int) < s.size := by omega
    have HK := Lib.hid (show keyB s = false by simp [keyB]; omega)
    clear h0 h1
    go_enter Tryd.func43, Tryd.ntmps43
    go_wp2_with fail
    go_ret
    exact ⟨by rw [HK.out]; rfl, rfl⟩
  have h1 : s.size ≤ 256 := by omega
  have h1' : (s.size : Int) ≤ 256 := by omega
  have HT := Lib.hid (ttext s w hs)
  by_cases ht : ¬ textB s = true
  · have HK := Lib.hid (show keyB s = false by cases hk : keyB s with | false => rfl | true => exact absurd (textB_of_keyB hk) ht)
    have ht' : textB s = false := by simpa using ht
    rw [ht'] at HT
    clear h0 h1 ht ht' hs
    go_enter Tryd.func43, Tryd.ntmps43
    go_wp2_with (go_at_call 42; refine HT.out.mono ?_; rintro e w' ⟨rfl, rfl⟩)
    go_ret
    exact ⟨by rw [HK.out]; rfl, rfl⟩
  have ht : textB s = true := by simpa using ht
  rw [ht] at HT
  have H10 := Lib.hid (contains1 s 10 w)
  have H9 := Lib.hid (contains1 s 9 w)
  by_cases h10 : (10 : UInt8) ∈ s.data.toList
  · have HK := Lib.hid (keyB_not_mem h10 (by decide))
    rw [show decide ((10 : UInt8) ∈ s.data.toList) = true by simpa using h10] at H10
    clear h0 h1 ht h10 hs
    go_enter Tryd.func43, Tryd.ntmps43
    go_wp2_with (first | (go_at_call 42; refine HT.out.mono ?_; rintro e w' ⟨rfl, rfl⟩) | (go_at_call 36; refine H10.out.mono ?_; rintro e w' ⟨rfl, rfl⟩))
    go_ret
    exact ⟨by rw [HK.out]; rfl, rfl⟩
  rw [show decide ((10 : UInt8) ∈ s.data.toList) = false by simpa using h10] at H10
  by_cases h9 : (9 : UInt8) ∈ s.data.toList
  · have HK := Lib.hid (keyB_not_mem h9 (by decide))
    rw [show decide ((9 : UInt8) ∈ s.data.toList) = true by simpa using h9] at H9
    clear h0 h1 ht h10 h9 hs
    go_enter Tryd.func43, Tryd.ntmps43
    go_wp2_with fail
    refine HT.out.mono ?_
    rintro e w' ⟨rfl, rfl⟩
    go_wp2_with fail
    refine H10.out.mono ?_
    rintro e w' ⟨rfl, rfl⟩
    go_wp2_with fail
    refine H9.out.mono ?_
    rintro e w' ⟨rfl, rfl⟩
    go_wp2_with fail
    go_ret
    exact ⟨by rw [HK.out]; rfl, rfl⟩
  rw [show decide ((9 : UInt8) ∈ s.data.toList) = false by simpa using h9] at H9
  have HK := Lib.hid (keyB_of (by omega) h1 ht h10 h9)
  clear h0 h1 ht h10 h9 hs
  go_enter Tryd.func43, Tryd.ntmps43
  go_wp2_with fail
  refine HT.out.mono ?_
  rintro e w' ⟨rfl, rfl⟩
  go_wp2_with fail
  refine H10.out.mono ?_
  rintro e w' ⟨rfl, rfl⟩
  go_wp2_with fail
  refine H9.out.mono ?_
  rintro e w' ⟨rfl, rfl⟩
  go_wp2_with fail
  go_ret
  exact ⟨by rw [HK.out]; rfl, rfl⟩
end Go.Proofs.YtdgeegfoocoohaaDoor
