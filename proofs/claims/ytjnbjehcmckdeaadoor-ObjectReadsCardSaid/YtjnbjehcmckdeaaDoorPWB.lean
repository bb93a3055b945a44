/- Several texts as one. -/
import Derived.Test.YtjnbjehcmckdeaaDoorStr
import Derived.Test.YtjnbjehcmckdeaaDoorMem
import Derived.Test.YtjnbjehcmckdeaaDoorPath
import Derived.Test.YtjnbjehcmckdeaaDoorShelf
import Derived.Test.YtjnbjehcmckdeaaDoorSplit
import Derived.Test.YtjnbjehcmckdeaaDoorGen
import Derived.Deep.QuietTactic
import Derived.BigQuiet
/- Words of a path: path.word, mizzenref02.Word (printed by gen/pword.py). -/
namespace Go.Proofs.YtjnbjehcmckdeaaDoor
open Go.RowKit
attribute [local go_sem ↓] Go.wp_at_zero Go.wp_at_succ

def wordC (c : UInt8) : Bool := decide ((97 ≤ c.toNat ∧ c.toNat ≤ 122) ∨ (65 ≤ c.toNat ∧ c.toNat ≤ 90) ∨ (48 ≤ c.toNat ∧ c.toNat ≤ 57) ∨ c.toNat = 95 ∨ c.toNat = 45)
def stepL (l : List UInt8) : Bool := l.all wordC && !l.isEmpty && decide (l.length ≤ 256)
theorem stepL_take {s : ByteArray} {q : Nat} (h : q < s.size) (hc : wordC s[q] = true) (ha : (s.data.toList.take q).all wordC = true) : (s.data.toList.take (q + 1)).all wordC = true := by
  rw [take_byte h, List.all_append, ha]; simp [hc]
theorem stepL_bad {s : ByteArray} {q : Nat} (h : q < s.size) (hc : wordC s[q] = false) : stepL s.data.toList = false := by
  have : s.data.toList.all wordC = false := by
    rw [List.all_eq_false]
    exact ⟨s[q], List.mem_of_getElem? (get_list h), by rw [hc]; decide⟩
  rw [stepL, this]; rfl
theorem wordC_cases (c : UInt8) (n : Int) (hn : n = c.toNat) : (wordC c = false ∧ n < 97 ∧ decide ((97 : Int) ≤ n) = false ∧ n < 65 ∧ decide ((65 : Int) ≤ n) = false ∧ n < 48 ∧ decide ((48 : Int) ≤ n) = false ∧ n ≤ 122 ∧ decide (n ≤ 122) = true ∧ n ≤ 90 ∧ decide (n ≤ 90) = true ∧ n ≤ 57 ∧ decide (n ≤ 57) = true ∧ (n == 95) = false ∧ (n != 95) = true ∧ (n == 45) = false ∧ (n != 45) = true) ∨ (wordC c = true ∧ n < 97 ∧ decide ((97 : Int) ≤ n) = false ∧ n < 65 ∧ decide ((65 : Int) ≤ n) = false ∧ n < 48 ∧ decide ((48 : Int) ≤ n) = false ∧ n ≤ 122 ∧ decide (n ≤ 122) = true ∧ n ≤ 90 ∧ decide (n ≤ 90) = true ∧ n ≤ 57 ∧ decide (n ≤ 57) = true ∧ (n == 95) = false ∧ (n != 95) = true ∧ (n == 45) = true ∧ (n != 45) = false) ∨ (wordC c = false ∧ n < 97 ∧ decide ((97 : Int) ≤ n) = false ∧ n < 65 ∧ decide ((65 : Int) ≤ n) = false ∧ n < 48 ∧ decide ((48 : Int) ≤ n) = false ∧ n ≤ 122 ∧ decide (n ≤ 122) = true ∧ n ≤ 90 ∧ decide (n ≤ 90) = true ∧ n ≤ 57 ∧ decide (n ≤ 57) = true ∧ (n == 95) = false ∧ (n != 95) = true ∧ (n == 45) = false ∧ (n != 45) = true) ∨ (wordC c = true ∧ n < 97 ∧ decide ((97 : Int) ≤ n) = false ∧ n < 65 ∧ decide ((65 : Int) ≤ n) = false ∧ (48 : Int) ≤ n ∧ decide ((48 : Int) ≤ n) = true ∧ n ≤ 122 ∧ decide (n ≤ 122) = true ∧ n ≤ 90 ∧ decide (n ≤ 90) = true ∧ n ≤ 57 ∧ decide (n ≤ 57) = true ∧ (n == 95) = false ∧ (n != 95) = true ∧ (n == 45) = false ∧ (n != 45) = true) ∨ (wordC c = false ∧ n < 97 ∧ decide ((97 : Int) ≤ n) = false ∧ n < 65 ∧ decide ((65 : Int) ≤ n) = false ∧ (48 : Int) ≤ n ∧ decide ((48 : Int) ≤ n) = true ∧ n ≤ 122 ∧ decide (n ≤ 122) = true ∧ n ≤ 90 ∧ decide (n ≤ 90) = true ∧ 57 < n ∧ decide (n ≤ 57) = false ∧ (n == 95) = false ∧ (n != 95) = true ∧ (n == 45) = false ∧ (n != 45) = true) ∨ (wordC c = true ∧ n < 97 ∧ decide ((97 : Int) ≤ n) = false ∧ (65 : Int) ≤ n ∧ decide ((65 : Int) ≤ n) = true ∧ (48 : Int) ≤ n ∧ decide ((48 : Int) ≤ n) = true ∧ n ≤ 122 ∧ decide (n ≤ 122) = true ∧ n ≤ 90 ∧ decide (n ≤ 90) = true ∧ 57 < n ∧ decide (n ≤ 57) = false ∧ (n == 95) = false ∧ (n != 95) = true ∧ (n == 45) = false ∧ (n != 45) = true) ∨ (wordC c = false ∧ n < 97 ∧ decide ((97 : Int) ≤ n) = false ∧ (65 : Int) ≤ n ∧ decide ((65 : Int) ≤ n) = true ∧ (48 : Int) ≤ n ∧ decide ((48 : Int) ≤ n) = true ∧ n ≤ 122 ∧ decide (n ≤ 122) = true ∧ 90 < n ∧ decide (n ≤ 90) = false ∧ 57 < n ∧ decide (n ≤ 57) = false ∧ (n == 95) = false ∧ (n != 95) = true ∧ (n == 45) = false ∧ (n != 45) = true) ∨ (wordC c = true ∧ n < 97 ∧ decide ((97 : Int) ≤ n) = false ∧ (65 : Int) ≤ n ∧ decide ((65 : Int) ≤ n) = true ∧ (48 : Int) ≤ n ∧ decide ((48 : Int) ≤ n) = true ∧ n ≤ 122 ∧ decide (n ≤ 122) = true ∧ 90 < n ∧ decide (n ≤ 90) = false ∧ 57 < n ∧ decide (n ≤ 57) = false ∧ (n == 95) = true ∧ (n != 95) = false ∧ (n == 45) = false ∧ (n != 45) = true) ∨ (wordC c = false ∧ n < 97 ∧ decide ((97 : Int) ≤ n) = false ∧ (65 : Int) ≤ n ∧ decide ((65 : Int) ≤ n) = true ∧ (48 : Int) ≤ n ∧ decide ((48 : Int) ≤ n) = true ∧ n ≤ 122 ∧ decide (n ≤ 122) = true ∧ 90 < n ∧ decide (n ≤ 90) = false ∧ 57 < n ∧ decide (n ≤ 57) = false ∧ (n == 95) = false ∧ (n != 95) = true ∧ (n == 45) = false ∧ (n != 45) = true) ∨ (wordC c = true ∧ (97 : Int) ≤ n ∧ decide ((97 : Int) ≤ n) = true ∧ (65 : Int) ≤ n ∧ decide ((65 : Int) ≤ n) = true ∧ (48 : Int) ≤ n ∧ decide ((48 : Int) ≤ n) = true ∧ n ≤ 122 ∧ decide (n ≤ 122) = true ∧ 90 < n ∧ decide (n ≤ 90) = false ∧ 57 < n ∧ decide (n ≤ 57) = false ∧ (n == 95) = false ∧ (n != 95) = true ∧ (n == 45) = false ∧ (n != 45) = true) ∨ (wordC c = false ∧ (97 : Int) ≤ n ∧ decide ((97 : Int) ≤ n) = true ∧ (65 : Int) ≤ n ∧ decide ((65 : Int) ≤ n) = true ∧ (48 : Int) ≤ n ∧ decide ((48 : Int) ≤ n) = true ∧ 122 < n ∧ decide (n ≤ 122) = false ∧ 90 < n ∧ decide (n ≤ 90) = false ∧ 57 < n ∧ decide (n ≤ 57) = false ∧ (n == 95) = false ∧ (n != 95) = true ∧ (n == 45) = false ∧ (n != 45) = true) := by
  have h256 := UInt8.toNat_lt c
  have hr : (0 ≤ c.toNat ∧ c.toNat ≤ 44) ∨ (45 ≤ c.toNat ∧ c.toNat ≤ 45) ∨ (46 ≤ c.toNat ∧ c.toNat ≤ 47) ∨ (48 ≤ c.toNat ∧ c.toNat ≤ 57) ∨ (58 ≤ c.toNat ∧ c.toNat ≤ 64) ∨ (65 ≤ c.toNat ∧ c.toNat ≤ 90) ∨ (91 ≤ c.toNat ∧ c.toNat ≤ 94) ∨ (95 ≤ c.toNat ∧ c.toNat ≤ 95) ∨ (96 ≤ c.toNat ∧ c.toNat ≤ 96) ∨ (97 ≤ c.toNat ∧ c.toNat ≤ 122) ∨ (123 ≤ c.toNat ∧ c.toNat ≤ 255) := by omega
  rcases hr with h | h | h | h | h | h | h | h | h | h | h
  · refine .inl ?_; refine ⟨by exact decide_eq_false (by omega), ?_⟩; subst hn; refine ⟨?_, ?_, ?_, ?_, ?_, ?_, ?_, ?_, ?_, ?_, ?_, ?_, ?_, ?_, ?_, ?_⟩ <;> first | omega | (rw [decide_eq_true_eq]; omega) | (rw [decide_eq_false_iff_not]; omega) | (rw [beq_eq_false_iff_ne]; omega) | (rw [beq_iff_eq]; omega) | (rw [bne_iff_ne]; omega) | (rw [bne_eq_false_iff_eq]; omega)
  · refine .inr ?_; refine .inl ?_; refine ⟨by exact decide_eq_true (by omega), ?_⟩; subst hn; refine ⟨?_, ?_, ?_, ?_, ?_, ?_, ?_, ?_, ?_, ?_, ?_, ?_, ?_, ?_, ?_, ?_⟩ <;> first | omega | (rw [decide_eq_true_eq]; omega) | (rw [decide_eq_false_iff_not]; omega) | (rw [beq_eq_false_iff_ne]; omega) | (rw [beq_iff_eq]; omega) | (rw [bne_iff_ne]; omega) | (rw [bne_eq_false_iff_eq]; omega)
  · refine .inr ?_; refine .inr ?_; refine .inl ?_; refine ⟨by exact decide_eq_false (by omega), ?_⟩; subst hn; refine ⟨?_, ?_, ?_, ?_, ?_, ?_, ?_, ?_, ?_, ?_, ?_, ?_, ?_, ?_, ?_, ?_⟩ <;> first | omega | (rw [decide_eq_true_eq]; omega) | (rw [decide_eq_false_iff_not]; omega) | (rw [beq_eq_false_iff_ne]; omega) | (rw [beq_iff_eq]; omega) | (rw [bne_iff_ne]; omega) | (rw [bne_eq_false_iff_eq]; omega)
  · refine .inr ?_; refine .inr ?_; refine .inr ?_; refine .inl ?_; refine ⟨by exact decide_eq_true (by omega), ?_⟩; subst hn; refine ⟨?_, ?_, ?_, ?_, ?_, ?_, ?_, ?_, ?_, ?_, ?_, ?_, ?_, ?_, ?_, ?_⟩ <;> first | omega | (rw [decide_eq_true_eq]; omega) | (rw [decide_eq_false_iff_not]; omega) | (rw [beq_eq_false_iff_ne]; omega) | (rw [beq_iff_eq]; omega) | (rw [bne_iff_ne]; omega) | (rw [bne_eq_false_iff_eq]; omega)
  · refine .inr ?_; refine .inr ?_; refine .inr ?_; refine .inr ?_; refine .inl ?_; refine ⟨by exact decide_eq_false (by omega), ?_⟩; subst hn; refine ⟨?_, ?_, ?_, ?_, ?_, ?_, ?_, ?_, ?_, ?_, ?_, ?_, ?_, ?_, ?_, ?_⟩ <;> first | omega | (rw [decide_eq_true_eq]; omega) | (rw [decide_eq_false_iff_not]; omega) | (rw [beq_eq_false_iff_ne]; omega) | (rw [beq_iff_eq]; omega) | (rw [bne_iff_ne]; omega) | (rw [bne_eq_false_iff_eq]; omega)
  · refine .inr ?_; refine .inr ?_; refine .inr ?_; refine .inr ?_; refine .inr ?_; refine .inl ?_; refine ⟨by exact decide_eq_true (by omega), ?_⟩; subst hn; refine ⟨?_, ?_, ?_, ?_, ?_, ?_, ?_, ?_, ?_, ?_, ?_, ?_, ?_, ?_, ?_, ?_⟩ <;> first | omega | (rw [decide_eq_true_eq]; omega) | (rw [decide_eq_false_iff_not]; omega) | (rw [beq_eq_false_iff_ne]; omega) | (rw [beq_iff_eq]; omega) | (rw [bne_iff_ne]; omega) | (rw [bne_eq_false_iff_eq]; omega)
  · refine .inr ?_; refine .inr ?_; refine .inr ?_; refine .inr ?_; refine .inr ?_; refine .inr ?_; refine .inl ?_; refine ⟨by exact decide_eq_false (by omega), ?_⟩; subst hn; refine ⟨?_, ?_, ?_, ?_, ?_, ?_, ?_, ?_, ?_, ?_, ?_, ?_, ?_, ?_, ?_, ?_⟩ <;> first | omega | (rw [decide_eq_true_eq]; omega) | (rw [decide_eq_false_iff_not]; omega) | (rw [beq_eq_false_iff_ne]; omega) | (rw [beq_iff_eq]; omega) | (rw [bne_iff_ne]; omega) | (rw [bne_eq_false_iff_eq]; omega)
  · refine .inr ?_; refine .inr ?_; refine .inr ?_; refine .inr ?_; refine .inr ?_; refine .inr ?_; refine .inr ?_; refine .inl ?_; refine ⟨by exact decide_eq_true (by omega), ?_⟩; subst hn; refine ⟨?_, ?_, ?_, ?_, ?_, ?_, ?_, ?_, ?_, ?_, ?_, ?_, ?_, ?_, ?_, ?_⟩ <;> first | omega | (rw [decide_eq_true_eq]; omega) | (rw [decide_eq_false_iff_not]; omega) | (rw [beq_eq_false_iff_ne]; omega) | (rw [beq_iff_eq]; omega) | (rw [bne_iff_ne]; omega) | (rw [bne_eq_false_iff_eq]; omega)
  · refine .inr ?_; refine .inr ?_; refine .inr ?_; refine .inr ?_; refine .inr ?_; refine .inr ?_; refine .inr ?_; refine .inr ?_; refine .inl ?_; refine ⟨by exact decide_eq_false (by omega), ?_⟩; subst hn; refine ⟨?_, ?_, ?_, ?_, ?_, ?_, ?_, ?_, ?_, ?_, ?_, ?_, ?_, ?_, ?_, ?_⟩ <;> first | omega | (rw [decide_eq_true_eq]; omega) | (rw [decide_eq_false_iff_not]; omega) | (rw [beq_eq_false_iff_ne]; omega) | (rw [beq_iff_eq]; omega) | (rw [bne_iff_ne]; omega) | (rw [bne_eq_false_iff_eq]; omega)
  · refine .inr ?_; refine .inr ?_; refine .inr ?_; refine .inr ?_; refine .inr ?_; refine .inr ?_; refine .inr ?_; refine .inr ?_; refine .inr ?_; refine .inl ?_; refine ⟨by exact decide_eq_true (by omega), ?_⟩; subst hn; refine ⟨?_, ?_, ?_, ?_, ?_, ?_, ?_, ?_, ?_, ?_, ?_, ?_, ?_, ?_, ?_, ?_⟩ <;> first | omega | (rw [decide_eq_true_eq]; omega) | (rw [decide_eq_false_iff_not]; omega) | (rw [beq_eq_false_iff_ne]; omega) | (rw [beq_iff_eq]; omega) | (rw [bne_iff_ne]; omega) | (rw [bne_eq_false_iff_eq]; omega)
  · refine .inr ?_; refine .inr ?_; refine .inr ?_; refine .inr ?_; refine .inr ?_; refine .inr ?_; refine .inr ?_; refine .inr ?_; refine .inr ?_; refine .inr ?_; refine ⟨by exact decide_eq_false (by omega), ?_⟩; subst hn; refine ⟨?_, ?_, ?_, ?_, ?_, ?_, ?_, ?_, ?_, ?_, ?_, ?_, ?_, ?_, ?_, ?_⟩ <;> first | omega | (rw [decide_eq_true_eq]; omega) | (rw [decide_eq_false_iff_not]; omega) | (rw [beq_eq_false_iff_ne]; omega) | (rw [beq_iff_eq]; omega) | (rw [bne_iff_ne]; omega) | (rw [bne_eq_false_iff_eq]; omega)
set_option maxRecDepth 100000 in
set_option maxHeartbeats 8000000 in
theorem pword (s : ByteArray) (hs : s.size ≤ 140737488351232) (w : World) : Calls Tryd.prog 84 #[.string s] w fun e w' => e = .returned (.bool (stepL s.data.toList)) ∧ w = w' := by
  go_enter Tryd.func84, Tryd.ntmps84
  go_wp2_with fail
  go_loop [7] (fun x => ∃ (q : Nat), x = .int .i64 q ∧ q ≤ s.size ∧ Hid ((s.data.toList.take q).all wordC = true)) (fun x => s.size - (intOf x).toNat)
  case atStart => exact ⟨0, rfl, Nat.zero_le _, Lib.hid (by simp)⟩
  case round =>
    obtain ⟨q, rfl, hq, HR⟩ := hrel
    by_cases hlt : q < s.size
    · have hq2 : (q : Int) < s.size := by omega
      have h256 := UInt8.toNat_lt s[q]
      rcases wordC_cases s[q] _ rfl with ⟨hw, i1, j1, i2, j2, i3, j3, i4, j4, i5, j5, i6, j6, i7, j7, i8, j8⟩ | ⟨hw, i1, j1, i2, j2, i3, j3, i4, j4, i5, j5, i6, j6, i7, j7, i8, j8⟩ | ⟨hw, i1, j1, i2, j2, i3, j3, i4, j4, i5, j5, i6, j6, i7, j7, i8, j8⟩ | ⟨hw, i1, j1, i2, j2, i3, j3, i4, j4, i5, j5, i6, j6, i7, j7, i8, j8⟩ | ⟨hw, i1, j1, i2, j2, i3, j3, i4, j4, i5, j5, i6, j6, i7, j7, i8, j8⟩ | ⟨hw, i1, j1, i2, j2, i3, j3, i4, j4, i5, j5, i6, j6, i7, j7, i8, j8⟩ | ⟨hw, i1, j1, i2, j2, i3, j3, i4, j4, i5, j5, i6, j6, i7, j7, i8, j8⟩ | ⟨hw, i1, j1, i2, j2, i3, j3, i4, j4, i5, j5, i6, j6, i7, j7, i8, j8⟩ | ⟨hw, i1, j1, i2, j2, i3, j3, i4, j4, i5, j5, i6, j6, i7, j7, i8, j8⟩ | ⟨hw, i1, j1, i2, j2, i3, j3, i4, j4, i5, j5, i6, j6, i7, j7, i8, j8⟩ | ⟨hw, i1, j1, i2, j2, i3, j3, i4, j4, i5, j5, i6, j6, i7, j7, i8, j8⟩
      all_goals
        first
        | (have HN := Lib.hid (stepL_take hlt hw HR.out)
           clear hw
           go_wp2_with fail
           go_round
           case rel => exact ⟨q + 1, by go_num, by omega, HN⟩
           case measure => simp [intOf]; omega)
        | (have HF := Lib.hid (stepL_bad hlt hw)
           clear hw
           go_wp2_with fail
           go_ret
           exact ⟨by rw [HF.out]; rfl, rfl⟩)
    · have hq2 : q = s.size := by omega
      have hq3 : ¬ (q : Int) < s.size := by omega
      have HA := Lib.hid (show s.data.toList.all wordC = true from by rw [← take_all s, ← hq2]; exact HR.out)
      clear hq2 hlt hq HR
      by_cases h0 : s.size = 0
      · have h0l : s.data.toList = [] := List.length_eq_zero_iff.1 (by rw [← size_list]; exact h0)
        have HF := Lib.hid (show stepL s.data.toList = false from by rw [h0l]; rfl)
        have g0 : s.toList.isEmpty = true := by rw [ByteArray.toList_eq, h0l]; rfl
        have g1 : ¬ (0 : Int) < (s.size : Int) := by omega
        clear h0 h0l
        go_wp2_with fail
        go_ret
        exact ⟨by rw [HF.out]; rfl, rfl⟩
      have h0l : s.data.toList ≠ [] := fun e => h0 (by rw [size_list, e]; rfl)
      have g0 : s.toList.isEmpty = false := by rw [ByteArray.toList_eq]; simpa using h0l
      have g1 : (0 : Int) < (s.size : Int) := by omega
      by_cases hz : s.size ≤ 256
      · have HF := Lib.hid (show stepL s.data.toList = true from by rw [stepL, HA.out, decide_eq_true (by rw [← size_list]; exact hz)]; simpa using h0l)
        have g2 : (s.size : Int) ≤ 256 := by omega
        have g3 : decide ((s.size : Int) ≤ 256) = true := decide_eq_true g2
        clear h0 h0l hz
        go_wp2_with fail
        go_ret
        exact ⟨by rw [HF.out]; first | rfl | exact congrArg (fun b => Ending.returned (Value.bool b)) g3, rfl⟩
      · have HF := Lib.hid (show stepL s.data.toList = false from by rw [stepL, decide_eq_false (by rw [← size_list]; exact hz)]; simp)
        have g2 : ¬ (s.size : Int) ≤ 256 := by omega
        have g3 : decide ((s.size : Int) ≤ 256) = false := decide_eq_false g2
        clear h0 h0l hz
        go_wp2_with fail
        go_ret
        exact ⟨by rw [HF.out]; first | rfl | exact congrArg (fun b => Ending.returned (Value.bool b)) (decide_eq_false (by omega)), rfl⟩
set_option maxRecDepth 100000 in
set_option maxHeartbeats 8000000 in
theorem rword2 (s : ByteArray) (hs : s.size ≤ 140737488351232) (w : World) : Calls Tryd.prog 46 #[.string s] w fun e w' => e = .returned (.bool (stepL s.data.toList)) ∧ w = w' := by
  go_enter Tryd.func46, Tryd.ntmps46
  go_wp2_with fail
  go_loop [3] (fun x => ∃ (q : Nat), x = .int .i64 q ∧ q ≤ s.size ∧ Hid ((s.data.toList.take q).all wordC = true)) (fun x => s.size - (intOf x).toNat)
  case atStart => exact ⟨0, rfl, Nat.zero_le _, Lib.hid (by simp)⟩
  case round =>
    obtain ⟨q, rfl, hq, HR⟩ := hrel
    by_cases hlt : q < s.size
    · have hq2 : (q : Int) < s.size := by omega
      have h256 := UInt8.toNat_lt s[q]
      rcases wordC_cases s[q] _ rfl with ⟨hw, i1, j1, i2, j2, i3, j3, i4, j4, i5, j5, i6, j6, i7, j7, i8, j8⟩ | ⟨hw, i1, j1, i2, j2, i3, j3, i4, j4, i5, j5, i6, j6, i7, j7, i8, j8⟩ | ⟨hw, i1, j1, i2, j2, i3, j3, i4, j4, i5, j5, i6, j6, i7, j7, i8, j8⟩ | ⟨hw, i1, j1, i2, j2, i3, j3, i4, j4, i5, j5, i6, j6, i7, j7, i8, j8⟩ | ⟨hw, i1, j1, i2, j2, i3, j3, i4, j4, i5, j5, i6, j6, i7, j7, i8, j8⟩ | ⟨hw, i1, j1, i2, j2, i3, j3, i4, j4, i5, j5, i6, j6, i7, j7, i8, j8⟩ | ⟨hw, i1, j1, i2, j2, i3, j3, i4, j4, i5, j5, i6, j6, i7, j7, i8, j8⟩ | ⟨hw, i1, j1, i2, j2, i3, j3, i4, j4, i5, j5, i6, j6, i7, j7, i8, j8⟩ | ⟨hw, i1, j1, i2, j2, i3, j3, i4, j4, i5, j5, i6, j6, i7, j7, i8, j8⟩ | ⟨hw, i1, j1, i2, j2, i3, j3, i4, j4, i5, j5, i6, j6, i7, j7, i8, j8⟩ | ⟨hw, i1, j1, i2, j2, i3, j3, i4, j4, i5, j5, i6, j6, i7, j7, i8, j8⟩
      all_goals
        first
        | (have HN := Lib.hid (stepL_take hlt hw HR.out)
           clear hw
           go_wp2_with fail
           go_round
           case rel => exact ⟨q + 1, by go_num, by omega, HN⟩
           case measure => simp [intOf]; omega)
        | (have HF := Lib.hid (stepL_bad hlt hw)
           clear hw
           go_wp2_with fail
           go_ret
           exact ⟨by rw [HF.out]; rfl, rfl⟩)
    · have hq2 : q = s.size := by omega
      have hq3 : ¬ (q : Int) < s.size := by omega
      have HA := Lib.hid (show s.data.toList.all wordC = true from by rw [← take_all s, ← hq2]; exact HR.out)
      clear hq2 hlt hq HR
      by_cases h0 : s.size = 0
      · have h0l : s.data.toList = [] := List.length_eq_zero_iff.1 (by rw [← size_list]; exact h0)
        have HF := Lib.hid (show stepL s.data.toList = false from by rw [h0l]; rfl)
        have g0 : s.toList.isEmpty = true := by rw [ByteArray.toList_eq, h0l]; rfl
        have g1 : ¬ (0 : Int) < (s.size : Int) := by omega
        clear h0 h0l
        go_wp2_with fail
        go_ret
        exact ⟨by rw [HF.out]; rfl, rfl⟩
      have h0l : s.data.toList ≠ [] := fun e => h0 (by rw [size_list, e]; rfl)
      have g0 : s.toList.isEmpty = false := by rw [ByteArray.toList_eq]; simpa using h0l
      have g1 : (0 : Int) < (s.size : Int) := by omega
      by_cases hz : s.size ≤ 256
      · have HF := Lib.hid (show stepL s.data.toList = true from by rw [stepL, HA.out, decide_eq_true (by rw [← size_list]; exact hz)]; simpa using h0l)
        have g2 : (s.size : Int) ≤ 256 := by omega
        have g3 : decide ((s.size : Int) ≤ 256) = true := decide_eq_true g2
        clear h0 h0l hz
        go_wp2_with fail
        go_ret
        exact ⟨by rw [HF.out]; first | rfl | exact congrArg (fun b => Ending.returned (Value.bool b)) g3, rfl⟩
      · have HF := Lib.hid (show stepL s.data.toList = false from by rw [stepL, decide_eq_false (by rw [← size_list]; exact hz)]; simp)
        have g2 : ¬ (s.size : Int) ≤ 256 := by omega
        have g3 : decide ((s.size : Int) ≤ 256) = false := decide_eq_false g2
        clear h0 h0l hz
        go_wp2_with fail
        go_ret
        exact ⟨by rw [HF.out]; first | rfl | exact congrArg (fun b => Ending.returned (Value.bool b)) (decide_eq_false (by omega)), rfl⟩
end Go.Proofs.YtjnbjehcmckdeaaDoor

/- path.Begins: whether a path begins as another one does. -/
namespace Go.Proofs.YtjnbjehcmckdeaaDoor
open Go.RowKit
attribute [local go_sem ↓] Go.wp_at_zero Go.wp_at_succ

def begins (l m : List ByteArray) : Bool := decide (m.length ≤ l.length ∧ l.take m.length = m)
def BegPost (b : Bool) (w : World) (e : Ending) (w' : World) : Prop := e = .returned (.bool b) ∧ ∃ q, w' = w.drewN q
theorem RepS.cells {w : World} {S : Nat → Prop} {b o : Nat} {l : List ByteArray} (h : RepS w S (some ⟨b, o, none⟩) l) : ∀ j, j < l.length → w.cell? ⟨b, o + j, none⟩ = some (.string (l.getD j ByteArray.empty)) := fun j hj => by
  obtain ⟨b', o', e, _, _, hc, _⟩ := h j hj
  obtain ⟨rfl, rfl⟩ : b = b' ∧ o = o' := by simpa using e
  rw [hc]; simp [List.getD, hj]

set_option maxRecDepth 100000 in
set_option maxHeartbeats 2000000 in
theorem tbegins (l m : List ByteArray) (a b : Option Addr) (c d : Nat) (w : World) (hl : RepS w (fun _ => True) a l) (hm : RepS w (fun _ => True) b m) (hl1 : l.length ≤ c) (hl2 : c ≤ maxLen) (hm1 : m.length ≤ 1000000) :
    Calls Tryd.prog 47 #[.slice a l.length c, .slice b m.length d] w (BegPost (begins l m) w) := by
  unfold maxLen at hl2
  rcases Nat.lt_or_ge l.length m.length with hlt | hge
  · have HB : Hid (begins l m = false) := by show begins l m = false; unfold begins; rw [decide_eq_false]; omega
    clear hl hm
    generalize l.length = ll at *
    generalize m.length = mm at *
    go_enter Tryd.func47, Tryd.ntmps47
    go_wp2_with fail
    go_ret
    exact ⟨by rw [HB.out]; rfl, 0, rfl⟩
  · cases m with
    | nil =>
      have HB : Hid (begins l [] = true) := by show begins l [] = true; unfold begins; simp
      have HC := Lib.hid (fun a c d w => Tryd.slices_Equal_string_empty a b c 0 d w (by omega))
      clear hl hm
      have h0 : (0 : Int) ≤ (c : Int) := by omega
      go_enter Tryd.func47, Tryd.ntmps47
      go_wp2_with (go_at_call 87; refine (HC.out _ _ _ _).mono ?_; rintro e w2 ⟨rfl, rfl⟩)
      go_ret
      exact ⟨by rw [HB.out]; rfl, 0, rfl⟩
    | cons s r =>
      obtain ⟨b1, o1, rfl, -⟩ := hm 0 (by simp)
      obtain ⟨b2, o2, rfl, -⟩ := hl 0 (by simp at hge; omega)
      have hB : decide (l.take (s :: r).length = (s :: r).take (s :: r).length) = begins l (s :: r) := by
        unfold begins
        rw [List.take_length]
        rw [Bool.eq_iff_iff, decide_eq_true_eq, decide_eq_true_eq]
        exact ⟨fun h => ⟨hge, h⟩, fun h => h.2⟩
      have HC := Lib.hid (fun w' c d h1 h2 => (hB ▸ Tryd.slices_Equal_string b2 o2 (s :: r).length c b1 o1 (s :: r).length d l (s :: r) w' hge (Nat.le_refl _) (by omega) (by omega) h1 h2 : Calls Tryd.prog 87 #[.slice (some ⟨b2, o2, none⟩) (s :: r).length c, .slice (some ⟨b1, o1, none⟩) (s :: r).length d] w' (BegPost (begins l (s :: r)) w')))
      have H1 := Lib.hid hl.cells
      have H2 := Lib.hid hm.cells
      clear hl hm hB
      generalize begins l (s :: r) = bb at *
      have hm2 : 1 ≤ (s :: r).length := by simp
      generalize (s :: r).length = mm at *
      have h0 : (0 : Int) ≤ (mm : Int) := by omega
      have h1 : (mm : Int) ≤ (c : Int) := by omega
      have h2 : (mm : Int) ≤ (l.length : Int) := by omega
      generalize l.length = ll at *
      go_enter Tryd.func47, Tryd.ntmps47
      go_wp2_with (go_at_call 87; refine (HC.out _ _ _ H1.out H2.out).mono ?_; rintro e w2 ⟨rfl, q, rfl⟩)
      go_ret
      exact ⟨rfl, q, rfl⟩
end Go.Proofs.YtjnbjehcmckdeaaDoor

/- slices.ContainsFunc over a path's steps (printed by gen/pcont.py). -/
namespace Go.Proofs.YtjnbjehcmckdeaaDoor
open Go.RowKit
attribute [local go_sem ↓] Go.wp_at_zero Go.wp_at_succ

theorem pword_call {s : ByteArray} {b : Bool} (h : stepL s.data.toList = b) (hs : s.size ≤ 140737488351232) (w : World) : Calls Tryd.prog 84 #[.string s] w fun e w' => e = .returned (.bool b) ∧ w = w' := h ▸ pword s hs w
def stepsOk (l : List ByteArray) : Bool := l.all fun s => stepL s.data.toList
theorem steps_bad {l : List ByteArray} {q : Nat} (hq : q < l.length) (h : stepL l[q].data.toList = false) : stepsOk l = false := by
  unfold stepsOk
  rw [List.all_eq_false]
  exact ⟨l[q], List.getElem_mem hq, by rw [h]; decide⟩
theorem steps_all {l : List ByteArray} (h : ∀ j (hj : j < l.length), stepL l[j].data.toList = true) : stepsOk l = true := by
  unfold stepsOk
  rw [List.all_eq_true]
  intro x hx
  obtain ⟨j, hj, rfl⟩ := List.getElem_of_mem hx
  exact h j hj
theorem pclosA {s : ByteArray} {b : Bool} (h : stepL s.data.toList = b) (hs : s.size ≤ 140737488351232) (w : World) : Calls Tryd.prog 83 #[.string s] w fun e w' => e = .returned (.bool (!b)) ∧ w = w' := by
  have CW := Lib.hid (pword_call h hs w)
  clear h
  go_enter Tryd.func83, Tryd.ntmps83
  go_wp2_with (go_at_call 84; refine CW.out.mono ?_; rintro e w9 ⟨rfl, rfl⟩)
  go_ret
  exact ⟨rfl, rfl⟩
set_option maxRecDepth 100000 in
set_option maxHeartbeats 4000000 in
theorem pindexA (l : List ByteArray) (a : Option Addr) (c : Nat) (w : World) (hl : RepS w (fun _ => True) a l) (hz : ∀ j (hj : j < l.length), l[j].size ≤ 140737488351232) (hl1 : l.length ≤ 1000000) :
    Calls Tryd.prog 117 #[.slice a l.length c, .func (.func 83) #[] #[]] w fun e w' => ∃ n : Int, e = .returned (.int .i64 n) ∧ (n < 0 ∧ stepsOk l = true ∨ 0 ≤ n ∧ stepsOk l = false) ∧ w = w' := by
  have HL := Lib.hid hl
  have HZ := Lib.hid hz
  clear hl hz
  go_enter Tryd.func117, Tryd.ntmps117
  go_wp2_with fail
  go_loop [8] (fun x => ∃ q : Nat, q ≤ l.length ∧ x = .int .i64 q ∧ Hid (∀ j (hj : j < l.length), j < q → stepL l[j].data.toList = true)) (fun x => l.length - (intOf x).toNat)
  case atStart => exact ⟨0, Nat.zero_le _, rfl, Lib.hid (fun j hj h => by omega)⟩
  case round =>
    obtain ⟨q, hq, rfl, HQ⟩ := hrel
    by_cases hlt : q < l.length
    · have hq0 : (0 : Int) ≤ (q : Int) := by omega
      have hq2 : (q : Int) < (l.length : Int) := by omega
      obtain ⟨b1, o1, rfl, -, hz1, hc1, -⟩ := HL.out q hlt
      have hs := HZ.out q hlt
      cases hb : stepL l[q].data.toList
      · have CC := Lib.hid (pclosA hb hs w)
        have HF := Lib.hid (steps_bad hlt hb)
        clear hb hs
        generalize l[q] = s at *
        go_wp2_with (go_at_call 83; refine CC.out.mono ?_; rintro e w9 ⟨rfl, rfl⟩)
        go_ret
        exact ⟨_, rfl, .inr ⟨by omega, HF.out⟩, rfl⟩
      · have CC := Lib.hid (pclosA hb hs w)
        have HN := Lib.hid (show ∀ j (hj : j < l.length), j < q + 1 → stepL l[j].data.toList = true from fun j hj hjq => by
          by_cases e : j = q
          · subst e; exact hb
          · exact HQ.out j hj (by omega))
        clear hb hs
        generalize l[q] = s at *
        go_wp2_with (go_at_call 83; refine CC.out.mono ?_; rintro e w9 ⟨rfl, rfl⟩)
        go_round
        case rel => exact ⟨q + 1, by omega, by go_num, HN⟩
        case measure => simp [intOf]; omega
    · have hq3 : ¬ (q : Int) < (l.length : Int) := by omega
      have HF := Lib.hid (steps_all (fun j hj => HQ.out j hj (by omega)))
      go_wp2_with fail
      go_ret
      exact ⟨_, rfl, .inl ⟨by omega, HF.out⟩, rfl⟩
theorem pcontA (l : List ByteArray) (a : Option Addr) (c : Nat) (w : World) (hl : RepS w (fun _ => True) a l) (hz : ∀ j (hj : j < l.length), l[j].size ≤ 140737488351232) (hl1 : l.length ≤ 1000000) :
    Calls Tryd.prog 82 #[.slice a l.length c, .func (.func 83) #[] #[]] w fun e w' => e = .returned (.bool (!stepsOk l)) ∧ w = w' := by
  have CI := Lib.hid (pindexA l a c w hl hz hl1)
  clear hl hz
  go_enter Tryd.func82, Tryd.ntmps82
  go_wp2_with fail
  refine CI.out.mono ?_
  rintro e w9 ⟨n, rfl, hn, rfl⟩
  rcases hn with ⟨h1, h2⟩ | ⟨h1, h2⟩
  · have g1 : decide ((0 : Int) ≤ n) = false := decide_eq_false (by omega)
    have HF := Lib.hid h2
    clear h2
    go_wp2_with fail
    go_ret
    exact ⟨by rw [HF.out]; first | rfl | exact congrArg (fun b => Ending.returned (Value.bool b)) g1, rfl⟩
  · have g1 : decide ((0 : Int) ≤ n) = true := decide_eq_true (by omega)
    have HF := Lib.hid h2
    clear h2
    go_wp2_with fail
    go_ret
    exact ⟨by rw [HF.out]; first | rfl | exact congrArg (fun b => Ending.returned (Value.bool b)) g1, rfl⟩
theorem pclosB {s : ByteArray} {b : Bool} (h : stepL s.data.toList = b) (hs : s.size ≤ 140737488351232) (w : World) : Calls Tryd.prog 85 #[.string s] w fun e w' => e = .returned (.bool (!b)) ∧ w = w' := by
  have CW := Lib.hid (pword_call h hs w)
  clear h
  go_enter Tryd.func85, Tryd.ntmps85
  go_wp2_with (go_at_call 84; refine CW.out.mono ?_; rintro e w9 ⟨rfl, rfl⟩)
  go_ret
  exact ⟨rfl, rfl⟩
set_option maxRecDepth 100000 in
set_option maxHeartbeats 4000000 in
theorem pindexB (l : List ByteArray) (a : Option Addr) (c : Nat) (w : World) (hl : RepS w (fun _ => True) a l) (hz : ∀ j (hj : j < l.length), l[j].size ≤ 140737488351232) (hl1 : l.length ≤ 1000000) :
    Calls Tryd.prog 117 #[.slice a l.length c, .func (.func 85) #[] #[]] w fun e w' => ∃ n : Int, e = .returned (.int .i64 n) ∧ (n < 0 ∧ stepsOk l = true ∨ 0 ≤ n ∧ stepsOk l = false) ∧ w = w' := by
  have HL := Lib.hid hl
  have HZ := Lib.hid hz
  clear hl hz
  go_enter Tryd.func117, Tryd.ntmps117
  go_wp2_with fail
  go_loop [8] (fun x => ∃ q : Nat, q ≤ l.length ∧ x = .int .i64 q ∧ Hid (∀ j (hj : j < l.length), j < q → stepL l[j].data.toList = true)) (fun x => l.length - (intOf x).toNat)
  case atStart => exact ⟨0, Nat.zero_le _, rfl, Lib.hid (fun j hj h => by omega)⟩
  case round =>
    obtain ⟨q, hq, rfl, HQ⟩ := hrel
    by_cases hlt : q < l.length
    · have hq0 : (0 : Int) ≤ (q : Int) := by omega
      have hq2 : (q : Int) < (l.length : Int) := by omega
      obtain ⟨b1, o1, rfl, -, hz1, hc1, -⟩ := HL.out q hlt
      have hs := HZ.out q hlt
      cases hb : stepL l[q].data.toList
      · have CC := Lib.hid (pclosB hb hs w)
        have HF := Lib.hid (steps_bad hlt hb)
        clear hb hs
        generalize l[q] = s at *
        go_wp2_with (go_at_call 85; refine CC.out.mono ?_; rintro e w9 ⟨rfl, rfl⟩)
        go_ret
        exact ⟨_, rfl, .inr ⟨by omega, HF.out⟩, rfl⟩
      · have CC := Lib.hid (pclosB hb hs w)
        have HN := Lib.hid (show ∀ j (hj : j < l.length), j < q + 1 → stepL l[j].data.toList = true from fun j hj hjq => by
          by_cases e : j = q
          · subst e; exact hb
          · exact HQ.out j hj (by omega))
        clear hb hs
        generalize l[q] = s at *
        go_wp2_with (go_at_call 85; refine CC.out.mono ?_; rintro e w9 ⟨rfl, rfl⟩)
        go_round
        case rel => exact ⟨q + 1, by omega, by go_num, HN⟩
        case measure => simp [intOf]; omega
    · have hq3 : ¬ (q : Int) < (l.length : Int) := by omega
      have HF := Lib.hid (steps_all (fun j hj => HQ.out j hj (by omega)))
      go_wp2_with fail
      go_ret
      exact ⟨_, rfl, .inl ⟨by omega, HF.out⟩, rfl⟩
theorem pcontB (l : List ByteArray) (a : Option Addr) (c : Nat) (w : World) (hl : RepS w (fun _ => True) a l) (hz : ∀ j (hj : j < l.length), l[j].size ≤ 140737488351232) (hl1 : l.length ≤ 1000000) :
    Calls Tryd.prog 82 #[.slice a l.length c, .func (.func 85) #[] #[]] w fun e w' => e = .returned (.bool (!stepsOk l)) ∧ w = w' := by
  have CI := Lib.hid (pindexB l a c w hl hz hl1)
  clear hl hz
  go_enter Tryd.func82, Tryd.ntmps82
  go_wp2_with fail
  refine CI.out.mono ?_
  rintro e w9 ⟨n, rfl, hn, rfl⟩
  rcases hn with ⟨h1, h2⟩ | ⟨h1, h2⟩
  · have g1 : decide ((0 : Int) ≤ n) = false := decide_eq_false (by omega)
    have HF := Lib.hid h2
    clear h2
    go_wp2_with fail
    go_ret
    exact ⟨by rw [HF.out]; first | rfl | exact congrArg (fun b => Ending.returned (Value.bool b)) g1, rfl⟩
  · have g1 : decide ((0 : Int) ≤ n) = true := decide_eq_true (by omega)
    have HF := Lib.hid h2
    clear h2
    go_wp2_with fail
    go_ret
    exact ⟨by rw [HF.out]; first | rfl | exact congrArg (fun b => Ending.returned (Value.bool b)) g1, rfl⟩
end Go.Proofs.YtjnbjehcmckdeaaDoor

/- path.Print. -/
namespace Go.Proofs.YtjnbjehcmckdeaaDoor
open Go.RowKit
attribute [local go_sem ↓] Go.wp_at_zero Go.wp_at_succ

theorem tail_len (sep : List UInt8) (M : Nat) : ∀ (xs : List (List UInt8)), (∀ x ∈ xs, x.length ≤ M) → (Lib.joinTail sep xs).length ≤ xs.length * (M + sep.length)
  | [], _ => by simp [Lib.joinTail]
  | x :: r, h => by
    have ih := tail_len sep M r (fun z hz => h z (by simp [hz]))
    have hx := h x (by simp)
    have e : Lib.joinTail sep (x :: r) = (sep ++ x) ++ Lib.joinTail sep r := by simp [Lib.joinTail]
    rw [e, List.length_append, List.length_append, List.length_cons, Nat.succ_mul]
    generalize r.length * (M + sep.length) = k at *
    omega
theorem join_len (sep : List UInt8) (M : Nat) (xs : List (List UInt8)) (h : ∀ x ∈ xs, x.length ≤ M) : (Lib.join xs sep).length ≤ xs.length * (M + sep.length) := by
  cases xs with
  | nil => simp [Lib.join_nil]
  | cons x r =>
    have ht := tail_len sep M r (fun z hz => h z (by simp [hz]))
    have hx := h x (by simp)
    rw [Lib.join_cons, List.length_append, List.length_cons, Nat.succ_mul]
    generalize r.length * (M + sep.length) = k at *
    omega
def joinB (l : List ByteArray) : ByteArray := ⟨(Lib.join (l.map (·.data.toList)) [46]).toArray⟩
def printP (l : List ByteArray) : ByteArray := if stepsOk l then joinB l else ⟨#[]⟩
theorem tjoin (l : List ByteArray) (a : Option Addr) (c : Nat) (w : World) (hl : RepS w (fun _ => True) a l) (hz : ∀ j (hj : j < l.length), l[j].size ≤ 1000000) (hl1 : l.length ≤ 1000000) (hc : l.length ≤ c) :
    Calls Tryd.prog 86 #[.slice a l.length c, .string ⟨#[46]⟩] w fun e w' => e = .returned (.string (joinB l)) ∧ Below w.heap.size w w' := by
  cases l with
  | nil =>
    refine (Tryd.strings_Join_none a c ⟨#[46]⟩ w).mono ?_
    rintro e w' ⟨rfl, rfl⟩
    exact ⟨rfl, Below.refl _ _⟩
  | cons x r =>
    obtain ⟨b, o, rfl, -, hlt, -, -⟩ := hl 0 (by simp)
    have hcells : ∀ (j : Nat) y, (x :: r)[j]? = some y → w.cell? ⟨b, o + j, none⟩ = some (.string y) := fun j y hy => by
      obtain ⟨hj, rfl⟩ := List.getElem?_eq_some_iff.1 hy
      obtain ⟨b', o', e, -, -, hc, -⟩ := hl j hj
      obtain ⟨rfl, rfl⟩ : b = b' ∧ o = o' := by simpa using e
      exact hc
    have hlen := join_len [46] 1000000 ((x :: r).map (·.data.toList)) (fun y hy => by
      obtain ⟨z, hz', rfl⟩ := List.mem_map.1 hy
      obtain ⟨j, hj, rfl⟩ := List.getElem_of_mem hz'
      rw [← size_list]; exact hz j hj)
    rw [List.length_map] at hlen
    refine (Tryd.strings_Join b o c (x :: r) ⟨#[46]⟩ w hcells hlt (by omega) hc ?_).mono ?_
    · have : (x :: r).length * (1000000 + [(46 : UInt8)].length) ≤ 1000000 * 1000001 := Nat.mul_le_mul hl1 (by simp)
      exact Nat.le_trans hlen (by omega)
    · rintro e w' ⟨rfl, hb⟩
      exact ⟨rfl, hb⟩
set_option maxRecDepth 100000 in
set_option maxHeartbeats 4000000 in
theorem tpprint (l : List ByteArray) (a : Option Addr) (c : Nat) (w : World) (hl : RepS w (fun _ => True) a l) (hz : ∀ j (hj : j < l.length), l[j].size ≤ 140737488351232) (hl1 : l.length ≤ 1000000) (hc : l.length ≤ c) :
    Calls Tryd.prog 45 #[.slice a l.length c] w fun e w' => e = .returned (.string (printP l)) ∧ Below w.heap.size w w' := by
  have CC := Lib.hid (pcontB l a c w hl hz hl1)
  have CJ := Lib.hid (fun hok : stepsOk l = true => tjoin l a c w hl (fun j hj => by
    have h1 := (List.all_eq_true.1 hok) l[j] (List.getElem_mem hj)
    unfold stepL at h1
    rw [Bool.and_eq_true, decide_eq_true_eq] at h1
    rw [size_list]; omega) hl1 hc)
  clear hl hz
  have HP := Lib.hid (show printP l = if stepsOk l then joinB l else ⟨#[]⟩ from rfl)
  generalize printP l = p at *
  generalize joinB l = j at *
  cases hs : stepsOk l
  all_goals
    rw [hs] at HP CC
    go_enter Tryd.func45, Tryd.ntmps45
    go_wp2_with (first | (go_at_call 82; refine CC.out.mono ?_; rintro e w9 ⟨rfl, rfl⟩) | (go_at_call 86; refine (CJ.out hs).mono ?_; rintro e w8 ⟨rfl, hb⟩; have HB := Lib.hid hb; clear hb))
    go_ret
    exact ⟨by rw [HP.out]; rfl, by first | exact HB.out | exact Below.refl _ _⟩
end Go.Proofs.YtjnbjehcmckdeaaDoor

/- path.Parse. -/
namespace Go.Proofs.YtjnbjehcmckdeaaDoor
open Go.RowKit
attribute [local go_sem ↓] Go.wp_at_zero Go.wp_at_succ

def piecesB (s : ByteArray) : List ByteArray := (splitL 46 s.data.toList).map fun l => ⟨l.toArray⟩
theorem splitL_len (b : UInt8) : ∀ (l : List UInt8), (∀ p ∈ splitL b l, p.length ≤ l.length) ∧ (splitL b l).length ≤ l.length + 1
  | [] => by simp [splitL]
  | c :: r => by
    obtain ⟨h1, h2⟩ := splitL_len b r
    rw [splitL]
    by_cases hc : c = b
    · rw [if_pos hc]
      refine ⟨fun p hp => ?_, by simp; omega⟩
      rcases List.mem_cons.1 hp with rfl | hp
      · simp
      · have := h1 p hp; simp; omega
    · rw [if_neg hc]
      cases hs : splitL b r with
      | nil => exact absurd hs (splitL_ne b r)
      | cons x xs =>
        rw [hs] at h1 h2
        refine ⟨fun p hp => ?_, by simp at h2 ⊢; omega⟩
        rcases List.mem_cons.1 hp with rfl | hp
        · have := h1 x (by simp); simp; omega
        · have := h1 p (by simp [hp]); simp; omega
theorem pieces_size {s : ByteArray} : ∀ j (hj : j < (piecesB s).length), (piecesB s)[j].size ≤ s.size := fun j hj => by
  have hm : (piecesB s)[j] ∈ piecesB s := List.getElem_mem hj
  unfold piecesB at hm
  obtain ⟨p, hp, he⟩ := List.mem_map.1 hm
  have := (splitL_len 46 s.data.toList).1 p hp
  rw [show (piecesB s)[j] = (⟨p.toArray⟩ : ByteArray) from he.symm, size_list, size_list]
  exact this
/-- strings.Index's variable. -/
def MaxP (w : World) : Prop := ∃ m, w.cell? ⟨1, 0, none⟩ = some (.int .i64 m)
theorem tsplit46 (s : ByteArray) (hs : s.size ≤ 1000000) (w : World) (hm : MaxP w) : Calls Tryd.prog 67 #[.string s, .string ⟨#[46]⟩] w fun e w' => ∃ b, e = .returned (.slice (some ⟨b, 0, none⟩) (piecesB s).length (piecesB s).length) ∧ w.heap.size ≤ b ∧ RepS w' (fun b => w.heap.size ≤ b) (some ⟨b, 0, none⟩) (piecesB s) ∧ Below w.heap.size w w' := by
  obtain ⟨m, hm⟩ := hm
  refine (Tryd.strings_Split s ⟨#[46]⟩ m w (by omega) hm (by decide)).mono ?_
  rintro e w' ⟨rfl, rfl⟩
  obtain ⟨h1, h2⟩ := splitB_one 46 s
  have hl : Lib.countB s ⟨#[46]⟩ + 1 = (piecesB s).length := by rw [h2, piecesB, List.length_map]
  rw [h1, hl]
  refine ⟨_, rfl, Nat.le_refl _, fun i hi => ⟨_, 0, rfl, Nat.le_refl _, by simp, ?_, by have := pieces_size i hi; omega⟩, Below.new _ _⟩
  have hc := (Blk.new w 9 ((piecesB s).map Value.string).toArray).cell i
  rw [Nat.zero_add]
  exact hc.trans (by simp [hi])
def parseSt (s : ByteArray) : List ByteArray × Int := if 16 ≤ (piecesB s).length then ([], 5) else if stepsOk (piecesB s) then (piecesB s, 0) else ([], 10)
def ParseSt (w : World) (r : List ByteArray × Int) (e : Ending) (w' : World) : Prop := ∃ a c, e = .returned (.tuple #[.slice a r.1.length c, .int .i64 r.2]) ∧ RepS w' (fun b => w.heap.size ≤ b) a r.1 ∧ r.1.length ≤ c ∧ Below w.heap.size w w'
theorem repS_nil (w : World) (S : Nat → Prop) (a : Option Addr) : RepS w S a [] := fun i h => by simp at h
set_option maxRecDepth 100000 in
set_option maxHeartbeats 4000000 in
theorem tpparse (s : ByteArray) (hs : s.size ≤ 100000) (w : World) (hm : MaxP w) : Calls Tryd.prog 42 #[.string s] w (ParseSt w (parseSt s)) := by
  have CS := Lib.hid (tsplit46 s (by omega) w hm)
  have HP := Lib.hid (show parseSt s = if 16 ≤ (piecesB s).length then ([], 5) else if stepsOk (piecesB s) then (piecesB s, 0) else ([], 10) from rfl)
  have HZ := Lib.hid (fun j hj => show (piecesB s)[j].size ≤ 140737488351232 from Nat.le_trans (pieces_size j hj) (by omega))
  have hln : (piecesB s).length ≤ 1000000 := by
    have := (splitL_len 46 s.data.toList).2
    rw [← size_list] at this
    rw [piecesB, List.length_map]; omega
  clear hm
  generalize parseSt s = r at *
  generalize piecesB s = l at *
  go_enter Tryd.func42, Tryd.ntmps42
  go_wp2_with fail
  refine CS.out.mono ?_
  rintro e w1 ⟨b, rfl, hb0, hr, hb⟩
  have HR := Lib.hid hr
  have HB := Lib.hid hb
  have CC := Lib.hid (pcontA l (some ⟨b, 0, none⟩) l.length w1 (fun i hi => by obtain ⟨b', o', e, -, h3, h4, h5⟩ := hr i hi; exact ⟨b', o', e, trivial, h3, h4, h5⟩) HZ.out hln)
  clear hr hb
  by_cases h16 : 16 ≤ l.length
  · have g1 : (16 : Int) ≤ (l.length : Int) := by omega
    rw [if_pos h16] at HP
    clear h16
    go_wp2_with fail
    go_ret2
    exact ⟨none, 0, by rw [HP.out]; rfl, by rw [HP.out]; exact repS_nil _ _ _, by rw [HP.out]; exact Nat.le_refl _, HB.out⟩
  have g1 : ¬ (16 : Int) ≤ (l.length : Int) := by omega
  rw [if_neg h16] at HP
  clear h16
  cases hst : stepsOk l
  · rw [hst] at HP CC
    clear hst
    go_wp2_with (go_at_call 82; refine CC.out.mono ?_; rintro e w9 ⟨rfl, rfl⟩)
    go_ret2
    exact ⟨none, 0, by rw [HP.out]; rfl, by rw [HP.out]; exact repS_nil _ _ _, by rw [HP.out]; exact Nat.le_refl _, HB.out⟩
  · rw [hst] at HP CC
    clear hst
    go_wp2_with (go_at_call 82; refine CC.out.mono ?_; rintro e w9 ⟨rfl, rfl⟩)
    go_ret2
    exact ⟨some ⟨b, 0, none⟩, l.length, by rw [HP.out]; rfl, by rw [HP.out]; exact HR.out, by rw [HP.out]; exact Nat.le_refl _, HB.out⟩
end Go.Proofs.YtjnbjehcmckdeaaDoor

/- Paths written and read: plain. -/
namespace Go.Proofs.YtjnbjehcmckdeaaDoor

theorem join_two (x y : List UInt8) (r : List (List UInt8)) : Lib.join (x :: y :: r) [46] = x ++ 46 :: Lib.join (y :: r) [46] := by
  rw [Lib.join_cons, Lib.join_cons]
  simp [Lib.joinTail]
theorem split_join : ∀ (xs : List (List UInt8)), xs ≠ [] → (∀ x ∈ xs, (46 : UInt8) ∉ x) → splitL 46 (Lib.join xs [46]) = xs
  | [], h, _ => absurd rfl h
  | [x], _, h => by rw [Lib.join_one, splitL_no (h x (by simp))]
  | x :: y :: r, _, h => by
    rw [join_two, splitL_app _ (h x (by simp)), split_join (y :: r) (by simp) (fun z hz => h z (by simp at hz ⊢; exact .inr hz))]
theorem join_split : ∀ (l : List UInt8), Lib.join (splitL 46 l) [46] = l
  | [] => by rw [splitL, Lib.join_one]
  | c :: r => by
    have ih := join_split r
    rw [splitL]
    cases hs : splitL 46 r with
    | nil => exact absurd hs (splitL_ne _ _)
    | cons x xs =>
      rw [hs] at ih
      by_cases hc : c = 46
      · rw [if_pos hc, join_two, ih, hc]; rfl
      · rw [if_neg hc]
        show Lib.join ((c :: x) :: xs) [46] = _
        rw [Lib.join_cons] at ih ⊢
        rw [List.cons_append, ih]
theorem step_dot {l : List UInt8} (h : stepL l = true) : (46 : UInt8) ∉ l := fun hm => by
  unfold stepL at h
  rw [Bool.and_eq_true, Bool.and_eq_true] at h
  have := List.all_eq_true.1 h.1.1 46 hm
  revert this; decide
theorem stepsOk_mem {l : List ByteArray} (h : stepsOk l = true) : ∀ x ∈ l, stepL x.data.toList = true := fun x hx => List.all_eq_true.1 h x hx
/-- What is read, is written as it was. -/
theorem print_parse (s : ByteArray) (h : stepsOk (piecesB s) = true) : printP (piecesB s) = s := by
  unfold printP
  rw [if_pos h, joinB]
  apply list_ext
  show Lib.join ((piecesB s).map (·.data.toList)) [46] = _
  have : (piecesB s).map (·.data.toList) = splitL 46 s.data.toList := by
    unfold piecesB
    rw [List.map_map]
    conv => rhs; rw [← List.map_id (splitL 46 s.data.toList)]
    apply List.map_congr_left
    intro x _; rfl
  rw [this, join_split]
/-- What is written, is read as it was. -/
theorem pieces_print {l : List ByteArray} (hl : l ≠ []) (h : stepsOk l = true) : piecesB (printP l) = l := by
  unfold printP
  rw [if_pos h, joinB, piecesB]
  show (splitL 46 (Lib.join (l.map (·.data.toList)) [46])).map _ = l
  rw [split_join _ (by simpa using hl) (fun x hx => by
    obtain ⟨y, hy, rfl⟩ := List.mem_map.1 hx
    exact step_dot (stepsOk_mem h y hy)), List.map_map]
  conv => rhs; rw [← List.map_id l]
  apply List.map_congr_left
  intro x _; rfl
theorem parse_print {l : List ByteArray} (hl : l ≠ []) (h : stepsOk l = true) : parseSt (printP l) = if 16 ≤ l.length then ([], 5) else (l, 0) := by
  unfold parseSt
  rw [pieces_print hl h, if_pos h]
end Go.Proofs.YtjnbjehcmckdeaaDoor

/- Texts as elements of rows. -/
namespace Go.Proofs.YtjnbjehcmckdeaaDoor
open Go.RowKit Go.Lib

theorem text_info : (Tryd.prog.info? 9).map (fun i => (i.zero, i.size, i.bytes)) = some (some (.string ⟨#[]⟩), 1, 16) := by kernel_rfl
def eltS : Elt ByteArray where
  ty := 9
  slt := 68
  sz := 1
  bytes := 16
  zero := .string ⟨#[]⟩
  R _ _ cs s := cs = [.string s] ∧ s.size ≤ 140737488351232
  len h := by rw [h.1]; rfl
  one h := by
    intro u hu
    rw [h.1, List.mem_singleton] at hu
    rw [hu]; rfl
  mono h _ _ := h
  pos := by decide
  hund := und_ss
  hinfo := text_info
  hzero := rfl
theorem RepS.mono {w w' : World} {S S' : Nat → Prop} {a : Option Addr} {l : List ByteArray} (h : RepS w S a l) (hS : ∀ b, S b → b < w.heap.size → S' b) (hw : ∀ b o, S b → b < w.heap.size → w'.cell? ⟨b, o, none⟩ = w.cell? ⟨b, o, none⟩) : RepS w' S' a l := fun i hi => by
  obtain ⟨b, o, e, hs, hlt, hc, hz⟩ := h i hi
  have hc2 := (hw b (o + i) hs hlt).trans hc
  exact ⟨b, o, e, hS b hs hlt, block_lt_of_cell (a := ⟨b, o + i, none⟩) hc2, hc2, hz⟩
theorem repS_of {w : World} {S : Nat → Prop} {a : Option Addr} {l : List ByteArray} (h : RepE eltS w S a l) : RepS w S a l := fun i hi => by
  obtain ⟨b, o, cs, e, hS, hc, hr⟩ := h i hi
  have h0 := hc 0 (.string l[i]) (by rw [hr.1]; rfl)
  rw [show o + i * eltS.sz + 0 = o + i by show o + i * 1 + 0 = o + i; omega] at h0
  exact ⟨b, o, e, hS, block_lt_of_cell (a := ⟨b, o + i, none⟩) h0, h0, hr.2⟩

end Go.Proofs.YtjnbjehcmckdeaaDoor

/- mizzenref02.Parse: the steps of a path that is written, the reference's way. -/
namespace Go.Proofs.YtjnbjehcmckdeaaDoor
open Go.RowKit
attribute [local go_sem ↓] Go.wp_at_zero Go.wp_at_succ

/-- One byte more at the end of the last piece. -/
def bump (c : UInt8) : List (List UInt8) → List (List UInt8)
  | [] => []
  | [x] => [x ++ [c]]
  | x :: y :: r => x :: bump c (y :: r)
theorem bump_set (c : UInt8) : ∀ (l : List (List UInt8)) (h : l ≠ []), bump c l = l.set (l.length - 1) (l.getLast h ++ [c])
  | [], h => absurd rfl h
  | [x], _ => rfl
  | x :: y :: r, _ => by
    have e : (x :: y :: r).getLast (by simp) = (y :: r).getLast (by simp) := List.getLast_cons (by simp)
    rw [bump, bump_set c (y :: r) (by simp), e]
    rfl
theorem splitL_snoc (b c : UInt8) : ∀ (l : List UInt8), splitL b (l ++ [c]) = if c = b then splitL b l ++ [[]] else bump c (splitL b l)
  | [] => by
    rw [List.nil_append, splitL, splitL]
    by_cases h : c = b
    · rw [if_pos h, if_pos h]; rfl
    · rw [if_neg h, if_neg h]; rfl
  | x :: r => by
    have ih := splitL_snoc b c r
    have hne := splitL_ne b r
    rw [List.cons_append, splitL, splitL, ih]
    by_cases hx : x = b
    · rw [if_pos hx, if_pos hx]
      by_cases h : c = b
      · rw [if_pos h, if_pos h]; rfl
      · rw [if_neg h, if_neg h]
        cases e : splitL b r with
        | nil => exact absurd e hne
        | cons p ps => rw [bump]
    · rw [if_neg hx, if_neg hx]
      cases e : splitL b r with
      | nil => exact absurd e hne
      | cons p ps =>
        by_cases h : c = b
        · rw [if_pos h, if_pos h]; rfl
        · rw [if_neg h, if_neg h]
          cases ps with
          | nil => rfl
          | cons q qs => rw [bump, bump]

/-- A row of texts of the call's own, one written anew. -/
theorem own_setS {w : World} {B g c j : Nat} {S : Nat → Prop} {l : List ByteArray} {x : ByteArray} (h : OwnE eltS w B S (some ⟨g, 0, none⟩) c l) (hj : j < l.length) (hx : x.size ≤ 140737488351232) :
    OwnE eltS (w.setCell ⟨g, j, none⟩ (.string x)) B S (some ⟨g, 0, none⟩) c (l.set j x) := by
  obtain ⟨xs, ⟨hl, hc⟩, h2, h3⟩ := h
  have hs1 : eltS.sz = 1 := rfl
  rw [hs1, Nat.mul_one] at hl
  rcases hc with ⟨e', h0⟩ | ⟨g', cap, cur, e', hB, hb, hn, hm, hsz, ht⟩
  · omega
  simp at e'
  obtain ⟨rfl, rfl⟩ := e'
  have hb' : Blk w g 9 cur := hb
  rw [hs1, Nat.mul_one] at hsz ht
  have hlen : (l.set j x).length = l.length := by simp
  refine ⟨xs.set j (.string x), ⟨by rw [hlen, hs1, Nat.mul_one, List.length_set]; exact hl, Or.inr ⟨g, c, cur.setIfInBounds j (.string x), by rw [hlen], hB, hb'.set_ j _, by rw [hlen]; exact hn, hm, by rw [hs1, Nat.mul_one, Array.size_setIfInBounds]; exact hsz, ?_⟩⟩, fun u hu => ?_, fun i hi => ?_⟩
  · rw [hlen, hs1, Nat.mul_one, Array.toList_setIfInBounds, List.take_set, ht]
  · rcases List.mem_or_eq_of_mem_set hu with hu | hu
    · exact h2 u hu
    · rw [hu]; rfl
  · rw [hlen] at hi
    have h4 := h3 i hi
    show _ = _ ∧ _
    have e4 : (xs.drop (i * eltS.sz)).take eltS.sz = [.string l[i]] := h4.1
    rw [hs1, Nat.mul_one] at e4 ⊢
    have hix : i < xs.length := by omega
    rw [List.drop_eq_getElem_cons hix, List.take_succ_cons, List.take_zero] at e4
    rw [List.drop_eq_getElem_cons (by rw [List.length_set]; exact hix), List.take_succ_cons, List.take_zero]
    by_cases he : j = i
    · subst he
      rw [List.getElem_set_self, List.getElem_set_self]
      exact ⟨rfl, hx⟩
    · rw [List.getElem_set_ne he, List.getElem_set_ne he]
      exact ⟨e4, h4.2⟩
/-- Where element j of such a row lies. -/
theorem own_atS {w : World} {B c j : Nat} {S : Nat → Prop} {A : Option Addr} {l : List ByteArray} (h : OwnE eltS w B S A c l) (hj : j < l.length) :
    ∃ g cur, A = some ⟨g, 0, none⟩ ∧ B ≤ g ∧ Blk w g 9 cur ∧ l.length ≤ cur.size ∧ w.cell? ⟨g, j, none⟩ = some (.string l[j]) ∧ l[j].size ≤ 140737488351232 := by
  obtain ⟨xs, ⟨hl, hc⟩, h2, h3⟩ := h
  have hs1 : eltS.sz = 1 := rfl
  rw [hs1, Nat.mul_one] at hl
  rcases hc with ⟨e', h0⟩ | ⟨g', cap, cur, e', hB, hb, hn, hm, hsz, ht⟩
  · omega
  simp at e'
  obtain ⟨rfl, rfl⟩ := e'
  have hb' : Blk w g' 9 cur := hb
  rw [hs1, Nat.mul_one] at hsz ht
  have h4 := h3 j hj
  have e4 : (xs.drop (j * eltS.sz)).take eltS.sz = [.string l[j]] := h4.1
  rw [hs1, Nat.mul_one, List.drop_eq_getElem_cons (by omega), List.take_succ_cons, List.take_zero] at e4
  injection e4 with e4
  refine ⟨g', cur, rfl, hB, hb', by omega, ?_, h4.2⟩
  rw [hb'.cell, ← Array.getElem?_toList, ← e4, ← List.getElem?_eq_getElem, ← ht, List.getElem?_take_of_lt hj]

/-- The pieces so far. -/
def soFar (s : ByteArray) (q : Nat) (l : List ByteArray) : Prop := l.map (fun x => x.data.toList) = splitL 46 (s.data.toList.take q)
theorem soFar.ne {s : ByteArray} {q : Nat} {l : List ByteArray} (h : soFar s q l) : 0 < l.length := by
  rcases Nat.eq_zero_or_pos l.length with e | e
  · have h2 := List.length_eq_zero_iff.1 e
    subst h2
    exact absurd h.symm (splitL_ne _ _)
  · exact e
theorem soFar.len {s : ByteArray} {q : Nat} {l : List ByteArray} (h : soFar s q l) : l.length ≤ q + 1 := by
  have h1 := (splitL_len 46 (s.data.toList.take q)).2
  rw [← h, List.length_map, List.length_take] at h1
  omega
theorem soFar.size {s : ByteArray} {q : Nat} {l : List ByteArray} (h : soFar s q l) : ∀ j (hj : j < l.length), l[j].size ≤ q := fun j hj => by
  have h1 := (splitL_len 46 (s.data.toList.take q)).1 l[j].data.toList (by rw [← h]; exact List.mem_map.2 ⟨l[j], List.getElem_mem hj, rfl⟩)
  rw [List.length_take, ← size_list] at h1
  omega
theorem soFar.dot {s : ByteArray} {q : Nat} {l : List ByteArray} (h : soFar s q l) (hq : q < s.size) (hc : s[q] = 46) : soFar s (q + 1) (l ++ [⟨#[]⟩]) := by
  unfold soFar at *
  rw [List.map_append, h, List.take_succ_eq_append_getElem (by rw [← size_list]; exact hq), splitL_snoc, if_pos (show s.data.toList[q]'(by rw [← size_list]; exact hq) = 46 from by rw [← hc]; rfl)]
  rfl
theorem soFar.byte {s : ByteArray} {q : Nat} {l : List ByteArray} (h : soFar s q l) (hq : q < s.size) (hc : s[q] ≠ 46) {k : Nat} (hk : k + 1 = l.length) {y : ByteArray} (hy : y.data.toList = (l[k]'(by omega)).data.toList ++ [s[q]]) : soFar s (q + 1) (l.set k y) := by
  unfold soFar at *
  have hne := splitL_ne 46 (s.data.toList.take q)
  have hcc : s.data.toList[q]'(by rw [← size_list]; exact hq) = s[q] := rfl
  rw [List.take_succ_eq_append_getElem (by rw [← size_list]; exact hq), splitL_snoc, if_neg (by rw [hcc]; exact hc), bump_set _ _ hne, List.map_set, hcc]
  have e : (splitL 46 (s.data.toList.take q)).length - 1 = k := by rw [← h, List.length_map]; omega
  have e2 : (splitL 46 (s.data.toList.take q)).getLast hne = (l[k]'(by omega)).data.toList := by
    rw [List.getLast_eq_getElem]
    have h3 : (splitL 46 (s.data.toList.take q))[k]? = some (l[k]'(by omega)).data.toList := by rw [← h, List.getElem?_map, List.getElem?_eq_getElem (by omega)]; rfl
    have h4 := List.getElem?_eq_some_iff.1 h3
    obtain ⟨h5, h6⟩ := h4
    simp only [e]
    exact h6
  rw [e2, e, hy, h]
theorem soFar.done {s : ByteArray} {l : List ByteArray} (h : soFar s s.size l) : l = piecesB s := by
  unfold soFar at h
  rw [size_list, List.take_length] at h
  rw [piecesB, ← h, List.map_map]
  conv => lhs; rw [← List.map_id l]
  exact List.map_congr_left fun x _ => rfl
theorem soFar.start (s : ByteArray) : soFar s 0 [⟨#[]⟩] := rfl

set_option maxRecDepth 100000 in
set_option maxHeartbeats 4000000 in
theorem rparse (s : ByteArray) (hs : s.size ≤ 100000) (w : World) : Calls Tryd.prog 43 #[.string s] w (ParseSt w (parseSt s)) := by
  have HP := Lib.hid (show parseSt s = if 16 ≤ (piecesB s).length then ([], 5) else if stepsOk (piecesB s) then (piecesB s, 0) else ([], 10) from rfl)
  generalize parseSt s = r at *
  have HST := Lib.hid (show OwnE eltS (w.alloc (.cells #[.string ⟨#[]⟩] 9)) w.heap.size (fun _ => False) (some ⟨w.heap.size, 0, none⟩) 1 [⟨#[]⟩] from
    ⟨[.string ⟨#[]⟩], ⟨rfl, Or.inr ⟨w.heap.size, 1, #[.string ⟨#[]⟩], rfl, Nat.le_refl _, Blk.new _ _ _, Nat.le_refl _, by unfold maxLen; omega, rfl, rfl⟩⟩, by simp [Value.oneCell'], fun i hi => by
      obtain rfl : i = 0 := by simpa using hi
      exact ⟨rfl, (by decide : (0 : Nat) ≤ 140737488351232)⟩⟩)
  go_enter Tryd.func43, Tryd.ntmps43
  go_wp2_with fail
  go_loopw [4, 5] (fun sl x wr => ∃ (q : Nat) (l : List ByteArray) (A : Option Addr) (c : Nat), q ≤ s.size ∧ sl = .slice A l.length c ∧ x = .int .i64 q ∧ Hid (soFar s q l) ∧ Hid (OwnE eltS wr w.heap.size (fun _ => False) A c l) ∧ Below w.heap.size w wr) (fun _ x _ => s.size - (intOf x).toNat)
  case atStart => exact ⟨0, [⟨#[]⟩], _, _, Nat.zero_le _, rfl, rfl, Lib.hid (soFar.start s), HST, Below.new _ _⟩
  case round =>
    obtain ⟨q, l, A, c, hq, rfl, rfl, HSF, HO, hbw⟩ := hrel
    have HBW := Lib.hid hbw
    have hll := HSF.out.len
    have hl0 := HSF.out.ne
    have hle := HO.out.len
    clear hbw
    by_cases hlt : q < s.size
    · have hq2 : (q : Int) < s.size := by omega
      have h256 := UInt8.toNat_lt s[q]
      by_cases hc : s[q] = 46
      · have gc : ((s[q].toNat : Int) == 46) = true := by rw [hc]; rfl
        obtain ⟨l2, hl2⟩ : ∃ l2, l2 = l ++ [(⟨#[]⟩ : ByteArray)] := ⟨_, rfl⟩
        have HN := Lib.hid (show soFar s (q + 1) l2 from hl2 ▸ HSF.out.dot hlt hc)
        have hnw : Below wr.heap.size wr (wr.alloc (.cells #[.string ⟨#[]⟩] 9)) := Below.new _ _
        obtain ⟨A', c', w4, hrun, ho, hgr⟩ := own_append (E := eltS) (w := wr.alloc (.cells #[.string ⟨#[]⟩] 9)) (l2 := [(⟨#[]⟩ : ByteArray)]) (es := [.string ⟨#[]⟩]) (ad := ⟨wr.heap.size, 0, none⟩) (cc := 1) (ty := 68) (t := 68) rfl (HO.out.keep hnw) (by show (l.length + 1) * 16 ≤ _; omega) (by show l.length + 1 ≤ _; unfold maxLen; omega) (by have := HBW.out.size; simp; omega) rfl
          (fun j u hu => by rw [add_lit, Nat.zero_add, (Blk.new wr 9 #[.string ⟨#[]⟩]).cell]; simpa using hu)
          (fun i hi => by
            obtain rfl : i = 0 := by simpa using hi
            exact ⟨rfl, (by decide : (0 : Nat) ≤ 140737488351232)⟩)
        rw [← hl2] at hrun ho
        have HO2 := Lib.hid ho
        have HB2 := Lib.hid (show Below w.heap.size w w4 from by
          have h1 := Below.next HBW.out hnw
          exact ⟨hgr.os.trans h1.os, hgr.tape.trans h1.tape, hgr.output.trans h1.output, Nat.le_trans h1.size hgr.size, fun b hb => (hgr.block b (Nat.lt_of_lt_of_le hb h1.size) (fun e => by have := (HO.out.keep hnw).own b e.symm; omega)).trans (h1.block b hb)⟩)
        clear ho hgr hc hl2
        go_wp2_with (at_builtin; refine wpList_append_run rfl (.tmp 18) (.tmp 19) 68 rfl hrun rfl rfl ?_)
        go_roundw
        case rel => first | exact ⟨q + 1, l2, A', c', by omega, rfl, by go_num, HN, HO2, HB2.out⟩ | ((repeat apply Exists.intro); exact ⟨⟨q + 1, l2, A', c', by omega, rfl, by go_num, HN, HO2, HB2.out⟩, rfl⟩)
        case measure => simp [intOf]; omega
      · have gc : ((s[q].toNat : Int) == 46) = false := beq_eq_false_iff_ne.2 (fun e => hc (UInt8.toNat_inj.1 (by rw [show (46 : UInt8).toNat = 46 from rfl]; omega)))
        obtain ⟨k, hk⟩ : ∃ k, k + 1 = l.length := ⟨l.length - 1, by omega⟩
        have hkl : k < l.length := by omega
        obtain ⟨g, cur, rfl, hBg, hblk, hsz, hcell, hz⟩ := own_atS HO.out hkl
        have hk1 : (l.length : Int) - 1 = (k : Int) := by omega
        have hk2 : (0 : Int) ≤ (k : Int) := by omega
        have hk3 : (k : Int) < (l.length : Int) := by omega
        have hqs : (q : Int) + 1 ≤ (s.size : Int) := by omega
        have hzq := HSF.out.size k hkl
        have hgl := hblk.lt
        have hgf := hblk.frozen k
        have HN := Lib.hid (show ∀ y, y.data.toList = (l[k]'hkl).data.toList ++ [s[q]] → soFar s (q + 1) (l.set k y) from fun y h => HSF.out.byte hlt hc hk h)
        have HS := Lib.hid (fun x hx => own_setS (j := k) (x := x) HO.out hkl hx)
        have hw1 : IntKind.i64.wrap ((l.length : Int) - 1) = (k : Int) := by rw [wrap_fit (by omega) (by omega)]; omega
        have hw3 : IntKind.i64.wrap (k : Int) = (k : Int) := wrap_fit (by omega) (by omega)
        have hs1 : (0 : Int) ≤ (q : Int) + 1 := by omega
        have hs2 : (q : Int) ≤ (q : Int) + 1 := by omega
        have hs3 : (0 : Int) ≤ (q : Int) := by omega
        have hw2 : IntKind.i64.wrap ((q : Int) + 1) = (q : Int) + 1 := wrap_fit (by omega) (by omega)
        clear hc hblk hw1 hk
        go_wp2_with fail
        go_region_with (fail)
        all_goals
          go_wp2_with fail
          have hyy : (l[k] ++ s.extract q (q + 1)).data.toList = (l[k]'hkl).data.toList ++ [s[q]] := by
            have hql : q < s.data.toList.length := by rw [← size_list]; exact hlt
            have e1 : (s.extract q (q + 1)).data.toList = [s[q]] := by
              rw [ByteArray.data_extract, Array.toList_extract, List.extract_eq_take_drop, show q + 1 - q = 1 by omega, List.drop_eq_getElem_cons hql, List.take_succ_cons, List.take_zero]
              rfl
            rw [ByteArray.data_append, Array.toList_append, e1]
          have hyz : (l[k] ++ s.extract q (q + 1)).size ≤ 140737488351232 := by
            have h1 := congrArg List.length hyy
            rw [← size_list, List.length_append, ← size_list] at h1
            simp only [List.length_cons, List.length_nil] at h1
            omega
          have HNY := Lib.hid (HN.out _ hyy)
          have HOY := Lib.hid (HS.out _ hyz)
          have HBY := Lib.hid ((HBW.out.setCell (p := ⟨g, k, none⟩) hBg (.string (l[k] ++ s.extract q (q + 1)))).drew)
          clear hyy hyz
          go_roundw
          case rel => exact ⟨q + 1, _, some ⟨g, 0, none⟩, c, by omega, by rw [List.length_set], by go_num, HNY, Lib.hid (HOY.out.keep (Below.refl _ _).drew), HBY.out⟩
          case measure => simp [intOf]; omega
    · obtain rfl : q = s.size := by omega
      obtain rfl := HSF.out.done
      have hln : (piecesB s).length ≤ 1000000 := by omega
      have HZ := Lib.hid (fun j hj => show (piecesB s)[j].size ≤ 140737488351232 from Nat.le_trans (pieces_size j hj) (by omega))
      have HRS := Lib.hid (repS_of (HO.out.rep.weak (S' := fun b => w.heap.size ≤ b) (fun b hb _ => by rcases hb with hb | hb; exact hb.elim; exact hb)))
      clear hlt hq hll hl0 HSF HO
      generalize piecesB s = l at *
      by_cases h16 : 16 ≤ l.length
      · have g1 : (16 : Int) ≤ (l.length : Int) := by omega
        rw [if_pos h16] at HP
        clear h16
        go_wp2_with fail
        go_ret2
        exact ⟨none, 0, by rw [HP.out]; rfl, by rw [HP.out]; exact repS_nil _ _ _, by rw [HP.out]; exact Nat.le_refl _, HBW.out⟩
      have g1 : ¬ (16 : Int) ≤ (l.length : Int) := by omega
      rw [if_neg h16] at HP
      clear h16
      go_wp2_with fail
      go_loop [6] (fun x => ∃ (j : Nat), j ≤ l.length ∧ x = .int .i64 j ∧ Hid (∀ i (hi : i < l.length), i < j → stepL l[i].data.toList = true)) (fun x => l.length - (intOf x).toNat)
      case atStart => exact ⟨0, Nat.zero_le _, rfl, fun i _ h => by omega⟩
      case round =>
        obtain ⟨j, hj, rfl, HJ⟩ := hrel
        by_cases hlt : j < l.length
        · obtain ⟨b, o, rfl, hs1, hbl, hcl, hz2⟩ := HRS.out j hlt
          have hz3 := HZ.out j hlt
          have hj1 : (0 : Int) ≤ (j : Int) := by omega
          have hj2 : (j : Int) < (l.length : Int) := by omega
          cases hw : stepL l[j].data.toList
          · have HF := Lib.hid (steps_bad hlt hw)
            have CW := Lib.hid (fun w2 => show Calls Tryd.prog 46 #[.string l[j]] w2 (fun e w' => e = .returned (.bool false) ∧ w2 = w') from hw ▸ rword2 l[j] hz3 w2)
            clear hw
            rw [HF.out] at HP
            go_wp2_with (go_at_call 46; refine (CW.out _).mono ?_; rintro e w9 ⟨rfl, rfl⟩)
            go_ret2
            exact ⟨none, 0, by rw [HP.out]; rfl, by rw [HP.out]; exact repS_nil _ _ _, by rw [HP.out]; exact Nat.le_refl _, HBW.out⟩
          · have HN := Lib.hid (show ∀ i (hi : i < l.length), i < j + 1 → stepL l[i].data.toList = true from fun i hi h2 => by
              rcases Nat.lt_or_ge i j with h3 | h3
              · exact HJ.out i hi h3
              · obtain rfl : i = j := by omega
                exact hw)
            have CW := Lib.hid (fun w2 => show Calls Tryd.prog 46 #[.string l[j]] w2 (fun e w' => e = .returned (.bool true) ∧ w2 = w') from hw ▸ rword2 l[j] hz3 w2)
            clear hw
            go_wp2_with (go_at_call 46; refine (CW.out _).mono ?_; rintro e w9 ⟨rfl, rfl⟩)
            go_round
            case rel => exact ⟨j + 1, by omega, by go_num, HN⟩
            case measure => simp [intOf]; omega
        · obtain rfl : j = l.length := by omega
          have HF := Lib.hid (steps_all fun i hi => HJ.out i hi hi)
          rw [HF.out] at HP
          clear hlt
          go_wp2_with fail
          go_ret2
          exact ⟨A, c, by rw [HP.out]; rfl, by rw [HP.out]; exact HRS.out, by rw [HP.out]; exact hle.1, HBW.out⟩
end Go.Proofs.YtjnbjehcmckdeaaDoor

/- mizzenref02.Begins. -/
namespace Go.Proofs.YtjnbjehcmckdeaaDoor
open Go.RowKit
attribute [local go_sem ↓] Go.wp_at_zero Go.wp_at_succ

theorem begins_no {l m : List ByteArray} {q : Nat} (hm : q < m.length) (h : ∀ hl : q < l.length, l[q] ≠ m[q]) : begins l m = false := by
  unfold begins
  refine decide_eq_false (fun ⟨h1, h2⟩ => h (by omega) ?_)
  have := congrArg (fun x : List ByteArray => x[q]?) h2
  rw [List.getElem?_take_of_lt hm, List.getElem?_eq_getElem (by omega : q < l.length), List.getElem?_eq_getElem hm] at this
  simpa using this
theorem begins_yes {l m : List ByteArray} (h : ∀ j (hj : j < m.length), ∃ hl : j < l.length, l[j] = m[j]) : begins l m = true := by
  unfold begins
  have hl : m.length ≤ l.length := by
    rcases Nat.lt_or_ge l.length m.length with hlt | hge
    · obtain ⟨h1, -⟩ := h l.length hlt
      omega
    · exact hge
  refine decide_eq_true ⟨hl, List.ext_getElem (by simp; omega) fun i h1 h2 => ?_⟩
  obtain ⟨h3, h4⟩ := h i h2
  rw [List.getElem_take, h4]
set_option maxRecDepth 100000 in
set_option maxHeartbeats 4000000 in
theorem rbegins (l m : List ByteArray) (a b : Option Addr) (c d : Nat) (w : World) (hl : RepS w (fun _ => True) a l) (hm : RepS w (fun _ => True) b m) (hl1 : l.length ≤ 1000000) :
    Calls Tryd.prog 48 #[.slice a l.length c, .slice b m.length d] w fun e w' => e = .returned (.bool (begins l m)) ∧ Below w.heap.size w w' := by
  have HL := Lib.hid hl
  have HM := Lib.hid hm
  clear hl hm
  go_enter Tryd.func48, Tryd.ntmps48
  go_wp2_with fail
  go_loopw [5] (fun x wr => ∃ q : Nat, q ≤ m.length ∧ x = .int .i64 q ∧ Hid (∀ j (hj : j < m.length), j < q → ∃ hl : j < l.length, l[j] = m[j]) ∧ Hid (Below w.heap.size w wr)) (fun x _ => m.length - (intOf x).toNat)
  case atStart => exact ⟨0, Nat.zero_le _, rfl, Lib.hid (fun j hj h => by omega), Lib.hid (Below.refl _ _)⟩
  case round =>
    obtain ⟨q, hq, rfl, HQ, HB⟩ := hrel
    by_cases hlt : q < m.length
    · have hq2 : (q : Int) < (m.length : Int) := by omega
      obtain ⟨b2, o2, rfl, -, hz2, hc2, -⟩ := (HM.out.keep HB.out) q hlt
      by_cases hll : q < l.length
      · obtain ⟨b1, o1, rfl, -, hz1, hc1, -⟩ := (HL.out.keep HB.out) q hll
        have hi0 : (0 : Int) ≤ (q : Int) := by omega
        have hi1 : (q : Int) < (l.length : Int) := by omega
        have g1 : decide ((l.length : Int) ≤ q) = false := decide_eq_false (by omega)
        by_cases he : l[q] = m[q]
        · have ge : (l[q].toList == m[q].toList) = true := by rw [keq_iff]; exact decide_eq_true he
          have ge2 : (l[q].toList != m[q].toList) = false := by rw [bne, ge]; rfl
          have HN := Lib.hid (show ∀ j (hj : j < m.length), j < q + 1 → ∃ hl : j < l.length, l[j] = m[j] from fun j hj hjq => by
            by_cases e : j = q
            · subst e; exact ⟨hll, he⟩
            · exact HQ.out j hj (by omega))
          clear he
          generalize l[q] = s1 at *
          generalize m[q] = s2 at *
          go_wp2_with fail
          go_quiet (fail)
          go_wp2_with fail
          go_roundw
          case rel => exact ⟨q + 1, by omega, by go_num, HN, Lib.hid (Below.drewN HB.out _)⟩
          case measure => simp [intOf]; omega
        · have ge : (l[q].toList == m[q].toList) = false := by rw [keq_iff]; exact decide_eq_false he
          have ge2 : (l[q].toList != m[q].toList) = true := by rw [bne, ge]; rfl
          have HF := Lib.hid (begins_no hlt (fun _ => he))
          clear he
          generalize l[q] = s1 at *
          generalize m[q] = s2 at *
          go_wp2_with fail
          go_quiet (fail)
          go_wp2_with fail
          go_ret
          exact ⟨by rw [HF.out]; rfl, Below.drewN HB.out _⟩
      · have g1 : decide ((l.length : Int) ≤ q) = true := decide_eq_true (by omega)
        have g2 : (l.length : Int) ≤ q := by omega
        have HF := Lib.hid (begins_no hlt (fun h => absurd h hll))
        clear hll
        go_wp2_with fail
        go_quiet (fail)
        go_wp2_with fail
        go_ret
        exact ⟨by rw [HF.out]; rfl, Below.drewN HB.out _⟩
    · have hq2 : q = m.length := by omega
      have hq3 : ¬ (q : Int) < (m.length : Int) := by omega
      have HF := Lib.hid (begins_yes (fun j hj => HQ.out j hj (by omega)))
      go_wp2_with fail
      go_ret
      exact ⟨by rw [HF.out]; rfl, HB.out⟩
end Go.Proofs.YtjnbjehcmckdeaaDoor
