/- mizzenref04.Digits, Print, Text. -/
import Derived.Test.YtjnbjehcmckdeaaDoorScalD
import Derived.Test.YtjnbjehcmckdeaaDoorGen
namespace Go.Proofs.YtjnbjehcmckdeaaDoor
open Go.RowKit
attribute [local go_sem ↓] Go.wp_at_zero Go.wp_at_succ

theorem dec_len : ∀ (k u : Nat), u < 10 ^ (k + 1) → (Lib.decDigits u).length ≤ k + 1
  | 0, u, h => by
    have h1 : u < 10 := by omega
    rw [Lib.decDigits, dif_pos h1]; simp
  | k + 1, u, h => by
    rw [Lib.decDigits]
    split
    · simp
    · have := dec_len k (u / 10) (by rw [Nat.pow_succ] at h; omega)
      rw [List.length_append]; simp only [List.length_cons, List.length_nil]; omega
/-- The digits that are still to be written. -/
def restD (m : Nat) (first : Bool) : List UInt8 := if m = 0 ∧ first = false then [] else Lib.decDigits m
theorem restD_step (m : Nat) (first : Bool) (h : m ≠ 0 ∨ first = true) : restD m first = restD (m / 10) false ++ [UInt8.ofNat (48 + m % 10)] := by
  have e : restD m first = Lib.decDigits m := by
    unfold restD
    rw [if_neg]
    rintro ⟨h1, h2⟩
    rcases h with h | h
    · exact h h1
    · rw [h] at h2; cases h2
  rw [e, Lib.decDigits, restD]
  split
  · next h10 =>
    have h1 : m / 10 = 0 := by omega
    rw [if_pos ⟨h1, rfl⟩]; simp; congr 2; omega
  · next h10 =>
    rw [if_neg]
    rintro ⟨h1, -⟩
    omega
theorem convD (d : Nat) (hd : d < 10) (W : World) : (convert 55 9 (.slice (some ⟨W.heap.size, 0, none⟩) 1 1)).run Tryd.prog (W.alloc (.cells #[.int .u8 (48 + (d : Int))] 5)) = .ok (.string ⟨#[UInt8.ofNat (48 + d)]⟩) (W.alloc (.cells #[.int .u8 (48 + (d : Int))] 5)) := by
  have := run_convert_bytes_arg (P := Tryd.prog) (W.alloc (.cells #[.int .u8 (48 + (d : Int))] 5)) 55 5 (by kernel_rfl) (by kernel_rfl) W.heap.size 0 1 1 [48 + (d : Int)] rfl (fun i hi => by
    obtain rfl : i = 0 := by omega
    exact (Blk.new W 5 #[.int .u8 (48 + (d : Int))]).cell 0) 9 (by kernel_rfl)
  rw [this]
  have e : strOfNums [48 + (d : Int)] = ⟨#[UInt8.ofNat (48 + d)]⟩ := by
    show (⟨#[UInt8.ofNat (48 + (d : Int)).toNat]⟩ : ByteArray) = ⟨#[UInt8.ofNat (48 + d)]⟩
    rw [show (48 + (d : Int)).toNat = 48 + d by omega]
  rw [e]
theorem itoa_neg {n : Int} (h : n < 0) : Lib.itoa n = 45 :: Lib.decDigits n.natAbs := by unfold Lib.itoa; rw [if_pos h]
theorem itoa_pos {n : Int} (h : ¬ n < 0) : Lib.itoa n = Lib.decDigits n.natAbs := by unfold Lib.itoa; rw [if_neg h, show n.toNat = n.natAbs by omega]
set_option maxRecDepth 100000 in
set_option maxHeartbeats 8000000 in
theorem rdigits (n0 : Int) (hn : i64ok n0) (w : World) : Calls Tryd.prog 78 #[.int .i64 n0] w (FreshPost w (Lib.itoa n0)) := by
  unfold i64ok at hn
  have HLEN := Lib.hid (dec_len 18 n0.natAbs (by simp only [Nat.reduceAdd, Nat.reducePow]; omega))
  have HI := Lib.hid (⟨fun h => itoa_neg (n := n0) h, fun h => itoa_pos (n := n0) h⟩ : (n0 < 0 → _) ∧ (¬ n0 < 0 → _))
  go_enter Tryd.func78, Tryd.ntmps78
  go_wp2_with fail
  go_loopw [0, 3] (fun x0 x3 wr => ∃ (n : Int) (o : ByteArray) (f : Bool), x0 = .int .i64 n ∧ x3 = .string o ∧ i64ok n ∧ o.size ≤ 20 ∧ Hid (restD n.natAbs f ++ o.data.toList = Lib.decDigits n0.natAbs) ∧ Hid (n.natAbs ≠ 0 ∨ f = true) ∧ Hid (Below w.heap.size w wr)) (fun x0 _ _ => (intOf x0).natAbs)
  case atStart => exact ⟨n0, ⟨#[]⟩, true, rfl, rfl, hn, by decide, Lib.hid (by simp [restD]), Lib.hid (.inr rfl), Lib.hid (Below.refl _ _)⟩
  case round =>
    obtain ⟨n, o, f, rfl, rfl, hn1, ho, HD, HF, hb⟩ := hrel
    unfold i64ok at hn1
    obtain ⟨d, hd⟩ : ∃ d, d = n.natAbs % 10 := ⟨_, rfl⟩
    obtain ⟨t, ht⟩ : ∃ t, n.tdiv 10 = t := ⟨_, rfl⟩
    have hta : t.natAbs = n.natAbs / 10 := by rw [← ht, Int.natAbs_tdiv]; rfl
    have hd9 : d < 10 := by omega
    obtain ⟨db, hdb⟩ : ∃ db : ByteArray, db = ⟨#[UInt8.ofNat (48 + d)]⟩ := ⟨_, rfl⟩
    have hti : i64ok t := by unfold i64ok; omega
    have ht1 : -9223372036854775808 ≤ t := by omega
    have ht2 : t ≤ 9223372036854775807 := by omega
    have HTA := Lib.hid hta
    have HTI := Lib.hid hti
    have HNX := Lib.hid (show restD t.natAbs false ++ (db ++ o : ByteArray).data.toList = Lib.decDigits n0.natAbs by
      rw [← HD.out, restD_step _ _ HF.out, hta, app_list, hdb, hd, List.append_assoc])
    have HNO := Lib.hid (show (db ++ o : ByteArray).size ≤ 19 by
      have h1 := congrArg List.length HNX.out
      rw [List.length_append, ← size_list] at h1
      have := HLEN.out
      omega)
    have hu : (48 + (d : Int)) % 256 = 48 + d := by omega
    have hcv : ∀ W : World, (convert 55 9 (.slice (some ⟨W.heap.size, 0, none⟩) 1 1)).run Tryd.prog (W.alloc (.cells #[.int .u8 (48 + (d : Int))] 5)) = .ok (.string db) (W.alloc (.cells #[.int .u8 (48 + (d : Int))] 5)) := fun W => hdb ▸ convD d hd9 W
    have hsg : (n.tmod 10 = (d : Int)) ∨ (∃ r, n.tmod 10 = r ∧ r < 0 ∧ -10 < r ∧ -r = (d : Int)) := by
      by_cases h : n < 0
      · by_cases h0 : d = 0
        · left
          have h1 : n.tmod 10 = -((-n).tmod 10) := by rw [Int.neg_tmod]; omega
          have h2 : (-n).tmod 10 = (-n) % 10 := Int.tmod_eq_emod_of_nonneg (by omega)
          omega
        · right
          have h1 : n.tmod 10 = -((-n).tmod 10) := by rw [Int.neg_tmod]; omega
          have h2 : (-n).tmod 10 = (-n) % 10 := Int.tmod_eq_emod_of_nonneg (by omega)
          exact ⟨_, rfl, by omega, by omega, by omega⟩
      · left
        rw [Int.tmod_eq_emod_of_nonneg (by omega)]; omega
    have htz : (t == 0) = true ∨ (t == 0) = false := by cases t == 0 <;> simp
    clear hd hta hti HD hdb
    have hdo : db.size + o.size ≤ 19 := by have := HNO.out; rwa [ByteArray.size_append] at this
    have hnz : (n0 < 0) ∨ (0 ≤ n0) := by omega
    rcases hsg with hr | ⟨r, hr, hr1, hr2, hr3⟩
    all_goals
      rcases htz with hz | hz
      · have HZ := Lib.hid (show (db ++ o : ByteArray).data.toList = Lib.decDigits n0.natAbs by
          rw [← HNX.out, show t.natAbs = 0 by rw [beq_iff_eq] at hz; omega]; simp [restD])
        rcases hnz with hneg | hneg
        · have HE := Lib.hid (HI.out.1 hneg)
          go_wp2_with fail
          go_ret
          exact ⟨_, rfl, by rw [HE.out, app_list, HZ.out]; rfl, (Below.next hb.out (Below.new _ _))⟩
        · have HE := Lib.hid (HI.out.2 (by omega))
          go_wp2_with fail
          go_ret
          exact ⟨_, rfl, by rw [HE.out, HZ.out], (Below.next hb.out (Below.new _ _))⟩
      · have HZ := Lib.hid (show t.natAbs ≠ 0 by rw [beq_eq_false_iff_ne] at hz; omega)
        go_wp2_with fail
        go_round
        case rel => exact ⟨t, _, false, rfl, rfl, HTI.out, by have := HNO.out; omega, HNX, Lib.hid (.inl HZ.out), Lib.hid (Below.next hb.out (Below.new _ _))⟩
        case measure => have h1 := HTA.out; have h2 := HZ.out; simp [intOf]; omega
end Go.Proofs.YtjnbjehcmckdeaaDoor
