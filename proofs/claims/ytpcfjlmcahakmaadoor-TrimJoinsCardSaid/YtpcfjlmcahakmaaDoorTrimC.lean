/- trim.closed: where an action ends. -/
import Derived.Test.YtpcfjlmcahakmaaDoorRows
import Derived.Test.YtpcfjlmcahakmaaDoorShelf
import Derived.Test.YtpcfjlmcahakmaaDoorMem
import Derived.Test.YtpcfjlmcahakmaaDoorTrimL
import Derived.Lib.IndexBytes
namespace Go.Proofs.YtpcfjlmcahakmaaDoor
open Go.RowKit

/-- A byte of a text, as its list has it. -/
theorem byte_list {s : ByteArray} {k : Nat} (h : k < s.size) : s.data.toList.drop k = s[k] :: s.data.toList.drop (k + 1) := by
  have hl : k < s.data.toList.length := by simpa using h
  rw [List.drop_eq_getElem_cons hl]; rfl
theorem drop_end {s : ByteArray} {k : Nat} (h : s.size ≤ k) : s.data.toList.drop k = [] := List.drop_eq_nil_of_le (by simpa using h)
theorem clos_nil (q : Bool) : clos q [] = none := by cases q <;> simp [clos]
theorem clos_q1 (r : List UInt8) : clos false (34 :: r) = (clos true r).map (· + 1) := by
  cases r with
  | nil => simp [clos]
  | cons b l => exact clos_quote (by simp)
theorem clos_q2 (r : List UInt8) : clos true (34 :: r) = (clos false r).map (· + 1) := by
  cases r with
  | nil => simp [clos]
  | cons b l => exact clos_unquote (by simp)
theorem clos_q3 {a : UInt8} (r : List UInt8) (h1 : a ≠ 34) (h2 : a ≠ 92) : clos true (a :: r) = (clos true r).map (· + 1) := by
  cases r with
  | nil => simp [clos]
  | cons b l => exact clos_in h1 h2 (by simp)
theorem clos_q4 (r : List UInt8) : clos true (92 :: r) = (clos true (r.drop 1)).map (· + 2) := by
  cases r with
  | nil => simp [clos]
  | cons b l => exact clos_back
theorem clos_q5 {a : UInt8} (r : List UInt8) (h1 : a ≠ 34) (h2 : Lib.hasPrefix (a :: r) [125, 125] = false) : clos false (a :: r) = (clos false r).map (· + 1) := by
  cases r with
  | nil => simp [clos]
  | cons b l =>
    rw [clos, if_neg, if_neg h1]
    rintro ⟨rfl, rfl⟩
    simp [Lib.hasPrefix, List.isPrefixOf] at h2
theorem clos_q6 {l : List UInt8} (h2 : Lib.hasPrefix l [125, 125] = true) : clos false l = some 0 := by
  match l, h2 with
  | a :: b :: l, h2 =>
    simp [Lib.hasPrefix, List.isPrefixOf] at h2
    rw [clos, if_pos ⟨h2.1.symm, h2.2.symm⟩]
  | [a], h2 => simp [Lib.hasPrefix, List.isPrefixOf] at h2
  | [], h2 => simp [Lib.hasPrefix, List.isPrefixOf] at h2

/-- The answer as a number. -/
def closI (k : Nat) : Option Nat → Int
  | none => -1
  | some e => ((e + k : Nat) : Int)
/-- From place i on, within quotes or not, it is what it is from the beginning on. -/
def ClosAt (s : ByteArray) (k i : Nat) (q : Bool) : Prop := k ≤ i ∧ clos false (s.data.toList.drop k) = (clos q (s.data.toList.drop i)).map (· + (i - k))
theorem ClosAt.step {s : ByteArray} {k i j : Nat} {q q' : Bool} (h : ClosAt s k i q) (hj : i ≤ j) (e : clos q (s.data.toList.drop i) = (clos q' (s.data.toList.drop j)).map (· + (j - i))) : ClosAt s k j q' := by
  refine ⟨by have := h.1; omega, ?_⟩
  have h1 := h.1
  rw [h.2, e, map_map]
  congr 1; funext x; omega
theorem ClosAt.done {s : ByteArray} {k i : Nat} {q : Bool} (h : ClosAt s k i q) (hi : s.size ≤ i) : closI k (clos false (s.data.toList.drop k)) = -1 := by
  rw [h.2, drop_end hi, clos_nil]; rfl
theorem ClosAt.found {s : ByteArray} {k i : Nat} (h : ClosAt s k i false) (hp : Lib.hasPrefix (s.data.toList.drop i) [125, 125] = true) : closI k (clos false (s.data.toList.drop k)) = (i : Int) := by
  have h1 := h.1
  rw [h.2, clos_q6 hp]
  show ((0 + (i - k) + k : Nat) : Int) = i
  omega
theorem ext_list {s : ByteArray} {k : Nat} : (s.extract k s.size).data.toList = s.data.toList.drop k := Lib.extract_to_end s k

set_option maxRecDepth 100000 in
set_option maxHeartbeats 2000000 in
theorem tclosed (s : ByteArray) (k : Nat) (hk : k ≤ s.size) (hs : s.size ≤ 1000000) (w : World) :
    Calls Tryd.prog 19 #[.string s, .int .i64 k] w fun e w' => e = .returned (.int .i64 (closI k (clos false (s.data.toList.drop k)))) ∧ w = w' := by
  obtain ⟨r, hr⟩ : ∃ r, r = closI k (clos false (s.data.toList.drop k)) := ⟨_, rfl⟩
  rw [← hr]
  have HR := Lib.hid hr
  clear hr
  go_enter Tryd.func19, Tryd.ntmps19
  go_wp2_with fail
  go_loop [5] (fun i => ∃ q : Nat, q ≤ s.size + 2 ∧ i = .int .i64 q ∧ Hid (ClosAt s k q false)) (fun i => s.size + 2 - (intOf i).toNat)
  case atStart => exact ⟨k, by omega, rfl, ⟨Nat.le_refl _, by simp⟩⟩
  case round =>
    obtain ⟨q, hq, rfl, hc⟩ := hrel
    have HC := Lib.hid hc.out
    clear hc
    by_cases hlt : q < s.size
    · have h0 : (0 : Int) ≤ q := by omega
      have h1 : (q : Int) ≤ s.size := by omega
      go_wp2_with fail
      refine (Tryd.strings_HasPrefix _ _ _).mono ?_
      rintro e w' ⟨rfl, rfl⟩
      rw [ext_list]
      have HB := Lib.hid (byte_list hlt)
      cases hp : Lib.hasPrefix (s.data.toList.drop q) [125, 125] with
      | true =>
        have HF := Lib.hid (HC.out.found hp)
        clear hp
        go_wp2_with fail
        go_ret
        exact ⟨by rw [HR.out, HF.out]; rfl, rfl⟩
      | false =>
        have HP := Lib.hid hp
        clear hp
        have hq2 : (q : Int) < s.size := by omega
        have h256 := UInt8.toNat_lt s[q]
        by_cases h34 : s[q] = 34
        · have g34 : ((s[q].toNat : Int) == 34) = true := by rw [h34]; rfl
          have HI := Lib.hid (show ClosAt s k (q + 1) true from HC.out.step (by omega) (by rw [HB.out, h34, clos_q1]; congr 1; funext x; omega))
          clear h34
          go_wp2_with fail
          go_loop [5] (fun i => ∃ j : Nat, q < j ∧ j ≤ s.size + 1 ∧ i = .int .i64 j ∧ Hid (ClosAt s k j true)) (fun i => s.size + 1 - (intOf i).toNat)
          case atStart => exact ⟨q + 1, by omega, by omega, by go_num, HI.out⟩
          case round =>
            obtain ⟨j, hqj, hj, rfl, hcj⟩ := hrel
            have HJ := Lib.hid hcj.out
            clear hcj HI HB HP
            by_cases hlj : j < s.size
            · have hj2 : (j : Int) < s.size := by omega
              have h256j := UInt8.toNat_lt s[j]
              have HBJ := Lib.hid (byte_list hlj)
              by_cases h3 : s[j] = 34
              · have g3 : ((s[j].toNat : Int) == 34) = true := by rw [h3]; rfl
                have g3' : ((s[j].toNat : Int) != 34) = false := by rw [h3]; rfl
                have HI := Lib.hid (show ClosAt s k (j + 1) false from HJ.out.step (by omega) (by rw [HBJ.out, h3, clos_q2]; congr 1; funext x; omega))
                clear h3
                go_wp2_with fail
                go_round
                case rel => exact ⟨j + 1, by omega, by go_num, HI.out⟩
                case measure => simp [intOf]; omega
              · have g3 : ((s[j].toNat : Int) == 34) = false := beq_eq_false_iff_ne.2 (fun h => h3 (UInt8.toNat_inj.1 (by show _ = 34; omega)))
                have g3' : ((s[j].toNat : Int) != 34) = true := bne_iff_ne.2 (fun h => h3 (UInt8.toNat_inj.1 (by show _ = 34; omega)))
                by_cases h9 : s[j] = 92
                · have g9 : ((s[j].toNat : Int) == 92) = true := by rw [h9]; rfl
                  have HI := Lib.hid (show ClosAt s k (j + 2) true from HJ.out.step (by omega) (by rw [HBJ.out, h9, clos_q4, List.drop_drop]; congr 1; funext x; omega))
                  clear h3 h9
                  go_wp2_with fail
                  go_round
                  case rel => exact ⟨j + 2, by omega, by omega, by go_num, HI.out⟩
                  case measure => simp [intOf]; omega
                · have g9 : ((s[j].toNat : Int) == 92) = false := beq_eq_false_iff_ne.2 (fun h => h9 (UInt8.toNat_inj.1 (by show _ = 92; omega)))
                  have HI := Lib.hid (show ClosAt s k (j + 1) true from HJ.out.step (by omega) (by rw [HBJ.out, clos_q3 _ h3 h9]; congr 1; funext x; omega))
                  clear h3 h9
                  go_wp2_with fail
                  go_round
                  case rel => exact ⟨j + 1, by omega, by omega, by go_num, HI.out⟩
                  case measure => simp [intOf]; omega
            · have HI := Lib.hid (show ClosAt s k (j + 1) false from HJ.out.step (by omega) (by rw [drop_end (by omega), drop_end (by omega), clos_nil, clos_nil]; rfl))
              go_wp2_with fail
              go_round
              case rel => exact ⟨j + 1, by omega, by go_num, HI.out⟩
              case measure => simp [intOf]; omega
        · have g34 : ((s[q].toNat : Int) == 34) = false := beq_eq_false_iff_ne.2 (fun h => h34 (UInt8.toNat_inj.1 (by show _ = 34; omega)))
          have HI := Lib.hid (show ClosAt s k (q + 1) false from HC.out.step (by omega) (by rw [HB.out, clos_q5 _ h34 (by rw [← HB.out]; exact HP.out)]; congr 1; funext x; omega))
          clear h34
          go_wp2_with fail
          go_round
          case rel => exact ⟨q + 1, by omega, by go_num, HI.out⟩
          case measure => simp [intOf]; omega
    · go_wp2_with fail
      go_ret
      exact ⟨by rw [HR.out, HC.out.done (by omega)]; rfl, rfl⟩
end Go.Proofs.YtpcfjlmcahakmaaDoor
