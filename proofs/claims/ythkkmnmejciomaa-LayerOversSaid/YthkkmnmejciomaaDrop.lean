/- tree.Drop: a map without a key; slices.DeleteFunc and slices.IndexFunc over pairs. -/
import Derived.Test.YthkkmnmejciomaaPut
namespace Go.Proofs.Ythkkmnmejciomaa
open Go.RowKit
attribute [local go_sem ↓] Go.wp_at_zero Go.wp_at_succ

theorem drop1 (p key : ByteArray) (k : Int) (b : Bool) (n : Int) (s : ByteArray) (v4 v5 : Value) (gk : Nat) (w : World) (hk : w.cell? ⟨gk, 0, none⟩ = some (.string key)) :
    Calls Try.prog 39 #[.agg #[.string p, .int .i64 k, .bool b, .int .i64 n, .string s, v4, v5], .pointer (some ⟨gk, 0, none⟩)] w fun e w' => e = .returned (.bool (decide (p = key))) ∧ Below w.heap.size w w' := by
  have hl := block_lt_of_cell hk
  have HE := Lib.hid (keq_iff p key)
  simp only at hl
  go_enter Try.func39, Try.ntmps39
  go_wp2_with fail
  go_ret
  exact ⟨by rw [← HE.out]; rfl, Below.new _ _⟩

/-- Where a key stands first. -/
def Idx (m : List (ByteArray × T)) (key : ByteArray) (r : Int) : Prop :=
  (∃ q : Nat, ∃ h : q < m.length, r = q ∧ m[q].1 = key ∧ ∀ j (hj : j < m.length), j < q → m[j].1 ≠ key) ∨ (r = -1 ∧ ∀ j (hj : j < m.length), m[j].1 ≠ key)
def IdxPost (w : World) (m : List (ByteArray × T)) (key : ByteArray) (e : Ending) (w' : World) : Prop := ∃ r : Int, e = .returned (.int .i64 r) ∧ Idx m key r ∧ Below w.heap.size w w'

set_option maxRecDepth 100000 in
set_option maxHeartbeats 1000000 in
theorem index_key (m : List (ByteArray × T)) (key : ByteArray) (a : Option Addr) (c gk : Nat) (w : World) (S : Nat → Prop) (h : RepM w S a m) (hk : w.cell? ⟨gk, 0, none⟩ = some (.string key)) (hl : m.length ≤ 4611686018427387904) :
    Calls Try.prog 46 #[.slice a m.length c, .func (.func 39) #[] #[.pointer (some ⟨gk, 0, none⟩)]] w (IdxPost w m key) := by
  have HK := Lib.hid hk
  have HKL := Lib.hid (block_lt_of_cell hk)
  clear hk
  go_enter Try.func46, Try.ntmps46
  go_wp2_with fail
  go_loopw [8] (fun i wr => ∃ q : Nat, i = .int .i64 q ∧ q ≤ m.length ∧ Hid (∀ j (hj : j < m.length), j < q → m[j].1 ≠ key) ∧ Below w.heap.size w wr) (fun i _ => m.length - (intOf i).toNat)
  case atStart => exact ⟨0, rfl, Nat.zero_le _, fun j _ h => by omega, Below.refl _ _⟩
  case round =>
    obtain ⟨q, rfl, hq, hall, hbw⟩ := hrel
    by_cases hlt : q < m.length
    · obtain ⟨b1, o1, la, lc, ma, mc, rfl, -, -, -, ⟨c0, c1, c2, c3, c4, c5, c6⟩, -⟩ := (h.keep hbw).at_ hlt
      have HD := Lib.hid (drop1 m[q].1 key)
      by_cases he : m[q].1 = key
      · have hd : decide (m[q].1 = key) = true := decide_eq_true he
        have HI : Hid (Idx m key q) := .inl ⟨q, hlt, rfl, he, hall.out⟩
        rw [hd] at HD
        clear he hd hall
        go_wp2_with fail
        refine (HD.out _ _ _ _ _ _ _ _ ((hbw.cell (p := ⟨gk, 0, none⟩) HKL.out).trans HK.out)).mono ?_
        rintro e w1 ⟨rfl, hb1⟩
        go_wp2_with fail
        go_ret
        exact ⟨_, rfl, HI.out, Below.next hbw hb1⟩
      · have hd : decide (m[q].1 = key) = false := decide_eq_false he
        have HN : Hid (∀ j (hj : j < m.length), j < q + 1 → m[j].1 ≠ key) := fun j hj h2 => by
          rcases Nat.lt_or_ge j q with h3 | h3
          · exact hall.out j hj h3
          · obtain rfl : j = q := by omega
            exact he
        rw [hd] at HD
        clear he hd hall
        go_wp2_with fail
        refine (HD.out _ _ _ _ _ _ _ _ ((hbw.cell (p := ⟨gk, 0, none⟩) HKL.out).trans HK.out)).mono ?_
        rintro e w1 ⟨rfl, hb1⟩
        go_wp2_with fail
        go_roundw
        case rel => exact ⟨q + 1, by go_num, by omega, HN, Below.next hbw hb1⟩
        case measure => simp [intOf]; omega
    · obtain rfl : q = m.length := by omega
      have HI : Hid (Idx m key (-1)) := .inr ⟨rfl, fun j hj => hall.out j hj hj⟩
      clear hall
      go_wp2_with fail
      go_ret
      exact ⟨_, rfl, HI.out, hbw⟩

end Go.Proofs.Ythkkmnmejciomaa
