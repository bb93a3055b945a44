/- MeterKeeps answers true for every input. -/
import Derived.Test.YtkndnoccenlngaaFrame
import Derived.Test.YtkndnoccenlngaaMet
namespace Go.Proofs.Ytkndnoccenlngaa
open Go.ChangeShapes Go.WideShapes Go.ChangeAt Go.RowKit

set_option maxHeartbeats 400000 in
theorem awake (w : World) : Calls Try.prog 6 #[] w fun e w' => e = .returned (.bool true) ∧ Below w.heap.size w w' := by
  go_enter Try.func6, Try.ntmps6
  go_wp2_with fail
  refine (m_add (t := 32) (ns := zeros) 0 rfl (Blk.new _ _ _)).mono ?_
  rintro e w1 ⟨rfl, hb1, hg1⟩
  have e1 : addR zeros 0 = 1 := by simp [addR, zeros, wrap64]
  rw [e1]
  go_wp2_with fail
  refine (m_add (t := 32) (ns := addF zeros 0) 0 (by decide) hb1).mono ?_
  rintro e w2 ⟨rfl, hb2, hg2⟩
  have e2 : addR (addF zeros 0) 0 = 2 := by simp [addR, addF, zeros, wrap64]
  rw [e2]
  go_wp2_with fail
  go_ret
  exact ⟨rfl, (((Below.refl _ _).alloc (Nat.le_refl _) _).grown hg1 (by simp) (by simp)).grown hg2 (by have := hg1.size; simp at this; omega) (by simp)⟩

set_option maxHeartbeats 800000 in
theorem keeps (a b n m : Int) (ha : 0 ≤ a ∧ a ≤ 255) (hb : 0 ≤ b ∧ b ≤ 255) (w : World) :
    Calls Try.prog 5 #[.int .u8 a, .int .u8 b, .int .i64 n, .int .i64 m] w fun e w' => e = .returned (.bool true) ∧ Below w.heap.size w w' := by
  obtain ⟨a, rfl⟩ := Int.eq_ofNat_of_zero_le ha.1
  obtain ⟨b, rfl⟩ := Int.eq_ofNat_of_zero_le hb.1
  have ha2 : (a : Int) ≤ 255 := ha.2
  have hb2 : (b : Int) ≤ 255 := hb.2
  go_enter Try.func5, Try.ntmps5
  go_wp2_with fail
  go_loopw [12] (fun i wr => ∃ q : Nat, q ≤ a ∧ i = .int .u8 q ∧ Blk wr w.heap.size 32 (mcells [0, q, 0, 0, 0, 0]) ∧ Below w.heap.size w wr) (fun i _ => a - (intOf i).toNat)
  case atStart => exact ⟨0, by omega, rfl, Blk.new _ _ _, Below.new _ _⟩
  case round =>
    obtain ⟨q, hq, rfl, hbl, hbw⟩ := hrel
    by_cases hlt : q < a
    · have ef : addF [0, (q : Int), 0, 0, 0, 0] 1 = [0, ((q + 1 : Nat) : Int), 0, 0, 0, 0] := by
        have : wrap64 ((q : Int) + 1) = ((q + 1 : Nat) : Int) := by simp [wrap64]; omega
        simp [addF, this]
      have H := Lib.hid (m_add (w := wr) 1 rfl hbl)
      rw [ef] at H
      clear ef hbl
      go_wp2_with fail
      refine H.out.mono ?_
      rintro e w' ⟨rfl, hbl, hg⟩
      go_wp2_with fail
      go_roundw
      case rel => exact ⟨q + 1, by omega, by go_num, hbl, hbw.grown hg hbw.size (by simp)⟩
      case measure => simp [intOf]; omega
    · obtain rfl : q = a := by omega
      clear hq hlt
      go_wp2_with fail
      go_loopw [17] (fun i wr => ∃ p : Nat, p ≤ b ∧ i = .int .u8 p ∧ Blk wr w.heap.size 32 (mcells [0, q, 0, p, 0, 0]) ∧ Below w.heap.size w wr) (fun i _ => b - (intOf i).toNat)
      case atStart => exact ⟨0, by omega, rfl, hbl, hbw⟩
      case round =>
        clear hbl hbw
        obtain ⟨p, hp, rfl, hbl, hbw⟩ := hrel
        by_cases hlt : p < b
        · have ef : addF [0, (q : Int), 0, (p : Int), 0, 0] 3 = [0, (q : Int), 0, ((p + 1 : Nat) : Int), 0, 0] := by
            have : wrap64 ((p : Int) + 1) = ((p + 1 : Nat) : Int) := by simp [wrap64]; omega
            simp [addF, this]
          have H := Lib.hid (m_add 3 rfl hbl)
          rw [ef] at H
          clear ef hbl
          go_wp2_with fail
          refine H.out.mono ?_
          rintro e w' ⟨rfl, hbl, hg⟩
          go_wp2_with fail
          go_roundw
          case rel => exact ⟨p + 1, by omega, by go_num, hbl, hbw.grown hg hbw.size (by simp)⟩
          case measure => simp [intOf]; omega
        · obtain rfl : p = b := by omega
          clear hp hlt ha hb
          have HS := Lib.hid hbw.size
          go_wp2_with fail
          refine (m_see n rfl hbl).mono ?_
          rintro e w1 ⟨rfl, hb1, hg1⟩
          have hw1 := hbw.grown hg1 hbw.size (by simp)
          go_wp2_with fail
          refine (m_see m (by simp [seeF]) hb1).mono ?_
          rintro e w2 ⟨rfl, hb2, hg2⟩
          have hw2 := hw1.grown hg2 hw1.size (by simp)
          have et : seeR (seeF [0, (q : Int), 0, (p : Int), 0, 0] n) m = max (max n m) 0 := by simp [seeR, seeF]; omega
          have ef : seeF (seeF [0, (q : Int), 0, (p : Int), 0, 0] n) m = [0, (q : Int), 0, (p : Int), 0, max (max n m) 0] := by simp [seeF]; omega
          rw [et]
          rw [ef] at hb2
          have ht : 0 ≤ max (max n m) 0 := by omega
          generalize htop : max (max n m) 0 = top at *
          have HT := Lib.hid htop
          clear et ef hb1 htop hw1 hg1 hg2
          have hmax : ∀ W : World, (Builtin.max_ #[2, 2, 2] 2 #[.int .i64 n, .int .i64 m, .int .i64 0]).run Try.prog W = .ok (.int .i64 top) W := by
            intro W
            rw [run_max_int3, ← HT.out]
            congr 2
            simp only [gt_iff_lt]
            split <;> split <;> omega
          go_wp2_with fail
          refine (m_most (by simpa using ht) (by simp) hb2).mono ?_
          rintro e w3 ⟨rfl, hb3, hg3⟩
          have hw3 := hw2.grown hg3 hw2.size (by simp)
          have hq : [0, (q : Int), 0, (p : Int), 0, top].getD 5 0 = top := rfl
          rw [hq]
          clear hq
          go_wp2_with fail
          refine (m_see (-5) (by simp) hb3).mono ?_
          rintro e w4 ⟨rfl, hb4, hg4⟩
          have hw4 := hw3.grown hg4 hw3.size (by simp)
          have et : seeR [0, (q : Int), 0, (p : Int), 0, top] (-5) = top := by simp [seeR]; omega
          have ef : seeF [0, (q : Int), 0, (p : Int), 0, top] (-5) = [0, (q : Int), 0, (p : Int), 0, top] := by simp [seeF]; omega
          rw [et]
          rw [ef] at hb4
          clear et ef hb3 hb2 hg3 hg4
          go_wp2_with fail
          refine (count_at 1 (by omega) rfl hb4).mono ?_
          rintro e w' ⟨rfl, rfl⟩
          rw [show [0, (q : Int), 0, (p : Int), 0, top].getD 1 0 = q from rfl]
          go_wp2_with fail
          refine (count_at 3 (by omega) rfl hb4).mono ?_
          rintro e w' ⟨rfl, rfl⟩
          rw [show [0, (q : Int), 0, (p : Int), 0, top].getD 3 0 = p from rfl]
          go_wp2_with fail
          refine (count_at 0 (by omega) rfl hb4).mono ?_
          rintro e w' ⟨rfl, rfl⟩
          rw [show [0, (q : Int), 0, (p : Int), 0, top].getD 0 0 = 0 from rfl]
          go_wp2_with fail
          refine (m_writes rfl hb4).mono ?_
          rintro e w' ⟨rfl, rfl⟩
          have es : wrap64 (wrap64 ([0, (q : Int), 0, (p : Int), 0, top].getD 1 0 + [0, (q : Int), 0, (p : Int), 0, top].getD 2 0) + [0, (q : Int), 0, (p : Int), 0, top].getD 3 0) = (q : Int) + p := by simp [wrap64]; omega
          rw [es]
          clear es
          go_wp2_with fail
          refine (m_reset _ _ _ _ _ _ hb4).mono ?_
          rintro e w5 ⟨rfl, hb5, hg5⟩
          have hw5 := hw4.grown hg5 hw4.size (by simp)
          go_wp2_with fail
          refine (awake _).mono ?_
          rintro e w6 ⟨rfl, hb6⟩
          have hw6 := hw5.trans (hb6.mono hw5.size)
          have hbl6 := hb5.keep hb6
          clear hb4 hg5 hb5 hb6
          go_wp2_with fail
          refine (m_writes rfl hbl6).mono ?_
          rintro e w' ⟨rfl, rfl⟩
          rw [show wrap64 (wrap64 (zeros.getD 1 0 + zeros.getD 2 0) + zeros.getD 3 0) = 0 from by simp [wrap64, zeros]]
          go_wp2_with fail
          refine (m_most (by decide) rfl hbl6).mono ?_
          rintro e w7 ⟨rfl, hb7, hg7⟩
          rw [show zeros.getD 5 0 = 0 from rfl]
          go_wp2_with fail
          go_ret
          exact ⟨rfl, hw6.grown hg7 hw6.size (by simp)⟩

theorem keeps_lifted (os : Os) (started : os.Started) (H : Type) (enc : TypeId × Value → H) :
    ReturnsInHanded {} Try.checked os 5 .any (Rows.meterKeepsSpec.pre6 enc Try.prog Try.f5 Rows.meterKeepsRow.domain false) (Rows.meterKeepsSpec.post enc Try.prog Try.f5 false true false false) := by
  refine lifted_of (s := Rows.meterKeepsSpec) os started H enc (by kernel_rfl) Try.func5
    (ChangeSpec.witness6 (enc := enc) (C := Try.checked) false ⟨#[], #[.int .u8 0, .int .u8 0, .int .i64 0, .int .i64 0], []⟩ 8 (by kernel_rfl) (by kernel_rfl) (by kernel_rfl) (by kernel_rfl))
    (by kernel_rfl) rfl (by kernel_rfl) Try.underlying4 ?_ ?_
  · intro ds h
    match ds, h with
    | [d0, d1, d2, d3], _ => rfl
  · intro W base args ds p hval hA _
    rw [Try.params5] at hA hval
    obtain ⟨v0, vs0, d0, ds0, p0, q0, hargs, rfl, rfl, h0, r0⟩ := trodAll_cons hA
    obtain ⟨v1, vs1, d1, ds1, p1, q1, rfl, rfl, rfl, h1, r1⟩ := trodAll_cons r0
    obtain ⟨v2, vs2, d2, ds2, p2, q2, rfl, rfl, rfl, h2, r2⟩ := trodAll_cons r1
    obtain ⟨v3, vs3, d3, ds3, p3, q3, rfl, rfl, rfl, h3, r3⟩ := trodAll_cons r2
    obtain ⟨rfl, rfl, rfl⟩ := trodAll_nil r3
    obtain rfl : args = #[v0, v1, v2, v3] := by cases args; simp_all
    obtain ⟨a0, rfl, rfl, rfl, w0⟩ := open_int Try.underlying5 (hval 0 5 v0 rfl rfl) h0
    obtain ⟨a1, rfl, rfl, rfl, w1⟩ := open_int Try.underlying5 (hval 1 5 v1 rfl rfl) h1
    obtain ⟨a2, rfl, rfl, rfl, w2⟩ := open_int Try.underlying2 (hval 2 2 v2 rfl rfl) h2
    obtain ⟨a3, rfl, rfl, rfl, w3⟩ := open_int Try.underlying2 (hval 3 2 v3 rfl rfl) h3
    exact keeps a0 a1 a2 a3 (bounds_u8 w0) (bounds_u8 w1) W

/-- MeterKeeps answers true, whatever it is handed: for every input. -/
theorem keeps_holds : Rows.MeterKeepsSaid :=
  OpenClaim.holds_of_wide 5 Try.f5 rfl rfl rfl rfl rfl rfl rfl ⟨rfl, rfl, rfl, rfl, rfl⟩ rfl rfl rfl rfl rfl (by kernel_rfl) Try.func5 (by kernel_rfl)
    (of_decide_eq_true (by kernel_rfl)) (by unfold Func.isWrapper; first | (rw [if_pos (by decide +kernel)]; kernel_rfl) | (rw [if_neg (by decide +kernel)]; exact ⟨rfl, rfl⟩))
    (fun os started H enc _ => keeps_lifted os started H enc)

end Go.Proofs.Ytkndnoccenlngaa
