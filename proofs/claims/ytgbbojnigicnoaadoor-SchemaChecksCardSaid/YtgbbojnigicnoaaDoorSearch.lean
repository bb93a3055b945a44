/- The binary search among pairs by their keys. -/
import Derived.Test.YtgbbojnigicnoaaDoorRows
import Derived.Test.YtgbbojnigicnoaaDoorShelf
import Derived.Test.YtgbbojnigicnoaaDoorKeys
namespace Go.Proofs.YtgbbojnigicnoaaDoor
open Go.RowKit

set_option maxHeartbeats 400000 in
theorem bykey (p key : ByteArray) (k : Int) (b : Bool) (n : Int) (s : ByteArray) (v4 v5 : Value) (w : World) :
    Calls Tryd.prog 30 #[.agg #[.string p, .int .i64 k, .bool b, .int .i64 n, .string s, v4, v5], .string key] w fun e w' => e = .returned (.int .i64 (kcmp p key)) ∧ Below w.heap.size w w' := by
  have H := Lib.hid (fun w => Tryd.strings_Compare p key w)
  simp only [kcmp_eq] at H
  go_enter Tryd.func30, Tryd.ntmps30
  go_wp2_with fail
  refine (H.out _).mono ?_
  rintro e w' ⟨rfl, rfl⟩
  go_wp2_with fail
  go_ret
  exact ⟨rfl, Below.new _ _⟩

/-- The keys rise. -/
def KS (m : List (ByteArray × T)) : Prop := ∀ i j (hj : j < m.length) (h : i < j), klt m[i].1 m[j].1 = true
/-- Where a key stands, or would stand. -/
def Srch (m : List (ByteArray × T)) (key : ByteArray) (i : Nat) (f : Bool) : Prop :=
  i ≤ m.length ∧ (∀ j (h : j < m.length), j < i → klt m[j].1 key = true) ∧ (∀ j (h : j < m.length), i ≤ j → klt m[j].1 key = false) ∧ (f = true ↔ ∃ h : i < m.length, m[i].1 = key)
def SrchPost (w : World) (m : List (ByteArray × T)) (key : ByteArray) (e : Ending) (w' : World) : Prop :=
  ∃ i f, e = .returned (.tuple #[.int .i64 (i : Nat), .bool f]) ∧ Srch m key i f ∧ Below w.heap.size w w'

theorem KS.mono {m : List (ByteArray × T)} (hks : KS m) {key : ByteArray} {i j : Nat} (hj : j < m.length) (h : i < j) (hk : klt m[j].1 key = true) : klt m[i].1 key = true :=
  klt_trans (hks i j hj h) hk
theorem kcmp_neg (a b : ByteArray) : kcmp a b < 0 ↔ klt a b = true := by
  unfold kcmp
  split
  · simp_all
  · split <;> simp_all
theorem kcmp_zero (a b : ByteArray) : kcmp a b = 0 ↔ a = b := by
  unfold kcmp
  split
  · next h => have := klt_ne h; simp [this]
  · split <;> simp_all

set_option maxRecDepth 100000 in
set_option maxHeartbeats 1000000 in
theorem search (m : List (ByteArray × T)) (key : ByteArray) (a : Option Addr) (c : Nat) (w : World) (S : Nat → Prop) (h : RepM w S a m) (hl : m.length ≤ 1353245080339) (hks : KS m) :
    Calls Tryd.prog 29 #[.slice a m.length c, .string key, .func (.func 30) #[] #[]] w (SrchPost w m key) := by
  have HKS := Lib.hid hks
  clear hks
  go_enter Tryd.func29, Tryd.ntmps29
  go_wp2_with fail
  go_loopw [9, 10] (fun x y wr => ∃ i j : Nat, x = .int .i64 i ∧ y = .int .i64 j ∧ i ≤ j ∧ j ≤ m.length ∧ Hid (∀ k (h : k < m.length), k < i → klt m[k].1 key = true) ∧ Hid (∀ k (h : k < m.length), j ≤ k → klt m[k].1 key = false) ∧ Below w.heap.size w wr)
    (fun x y _ => (intOf y).toNat - (intOf x).toNat)
  case atStart => exact ⟨0, m.length, rfl, rfl, Nat.zero_le _, Nat.le_refl _, fun k _ h => by omega, fun k h h2 => by omega, Below.refl _ _⟩
  case round =>
    obtain ⟨i, j, rfl, rfl, hij, hjl, hlo, hhi, hbw⟩ := hrel
    by_cases hlt : i < j
    · have hq2 : i ≤ (i + j) / 2 := by omega
      have hq3 : (i + j) / 2 < j := by omega
      have hqm : (i + j) / 2 < m.length := by omega
      obtain ⟨bl, ol, la', lc', ma', mc', rfl, -, -, -, ⟨c0, c1, c2, c3, c4, c5, c6⟩, -⟩ := (h.keep hbw).at_ hqm
      by_cases hk : klt m[(i + j) / 2].1 key = true
      · have HLO : Hid (∀ k (h : k < m.length), k < (i + j) / 2 + 1 → klt m[k].1 key = true) := fun k h h2 => by
          rcases Nat.lt_or_ge k ((i + j) / 2) with h3 | h3
          · exact HKS.out.mono hqm h3 hk
          · obtain rfl : k = (i + j) / 2 := by omega
            exact hk
        have hneg : kcmp m[(i + j) / 2].1 key < 0 := (kcmp_neg _ _).2 hk
        have HB := Lib.hid (bykey m[(i + j) / 2].1 key)
        generalize kcmp m[(i + j) / 2].1 key = r at HB hneg
        clear hk hlo
        go_wp2_with fail
        refine (HB.out _ _ _ _ _ _ _).mono ?_
        rintro e w1 ⟨rfl, hb1⟩
        go_wp2_with fail
        go_roundw
        case rel => exact ⟨(i + j) / 2 + 1, j, by go_num, rfl, by omega, hjl, HLO, hhi, Below.next hbw hb1⟩
        case measure => simp [intOf]; omega
      · have hk' : klt m[(i + j) / 2].1 key = false := by simpa using hk
        have HHI : Hid (∀ k (h : k < m.length), (i + j) / 2 ≤ k → klt m[k].1 key = false) := fun k h h2 => by
          rcases Nat.lt_or_ge ((i + j) / 2) k with h3 | h3
          · cases hc : klt m[k].1 key with
            | false => rfl
            | true => exact absurd (HKS.out.mono h h3 hc) hk
          · obtain rfl : k = (i + j) / 2 := by omega
            exact hk'
        have hneg : 0 ≤ kcmp m[(i + j) / 2].1 key := by
          rcases Int.lt_or_le (kcmp m[(i + j) / 2].1 key) 0 with h3 | h3
          · exact absurd ((kcmp_neg _ _).1 h3) hk
          · exact h3
        have HB := Lib.hid (bykey m[(i + j) / 2].1 key)
        generalize kcmp m[(i + j) / 2].1 key = r at HB hneg
        clear hk hk' hhi
        go_wp2_with fail
        refine (HB.out _ _ _ _ _ _ _).mono ?_
        rintro e w1 ⟨rfl, hb1⟩
        go_wp2_with fail
        go_roundw
        case rel => exact ⟨i, (i + j) / 2, rfl, by go_num, hq2, by omega, hlo, HHI, Below.next hbw hb1⟩
        case measure => simp [intOf]; omega
    · obtain rfl : i = j := by omega
      by_cases hin : i < m.length
      · obtain ⟨bl, ol, la', lc', ma', mc', rfl, -, -, -, ⟨c0, c1, c2, c3, c4, c5, c6⟩, -⟩ := (h.keep hbw).at_ hin
        have HB := Lib.hid (bykey m[i].1 key)
        by_cases he : m[i].1 = key
        · have HP : Hid (Srch m key i true) := ⟨hjl, hlo.out, hhi.out, by simp [hin, he]⟩
          rw [(kcmp_zero _ _).2 he] at HB
          clear hlo hhi he
          go_wp2_with fail
          refine (HB.out _ _ _ _ _ _ _).mono ?_
          rintro e w1 ⟨rfl, hb1⟩
          go_wp2_with fail
          go_ret2
          exact ⟨i, true, rfl, HP, Below.next hbw hb1⟩
        · have HP : Hid (Srch m key i false) := ⟨hjl, hlo.out, hhi.out, by simp [hin, he]⟩
          have hz : (kcmp m[i].1 key == 0) = false := beq_eq_false_iff_ne.2 (fun e => he ((kcmp_zero _ _).1 e))
          generalize kcmp m[i].1 key = r at HB hz
          clear hlo hhi he
          go_wp2_with fail
          refine (HB.out _ _ _ _ _ _ _).mono ?_
          rintro e w1 ⟨rfl, hb1⟩
          go_wp2_with fail
          go_ret2
          exact ⟨i, false, by simp, HP, Below.next hbw hb1⟩
      · obtain rfl : i = m.length := by omega
        have HP : Hid (Srch m key m.length false) := ⟨hjl, hlo.out, hhi.out, by simp⟩
        clear hlo hhi
        go_wp2_with fail
        go_ret2
        exact ⟨m.length, false, rfl, HP, hbw⟩

end Go.Proofs.YtgbbojnigicnoaaDoor
