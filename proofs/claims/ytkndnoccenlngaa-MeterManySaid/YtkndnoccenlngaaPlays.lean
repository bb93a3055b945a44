/- MeterPlays answers true for every input. -/
import Derived.Test.YtkndnoccenlngaaKeeps
import Derived.Deep.RegionHeld3
import Derived.Deep.DrawnRows
import Derived.BigQuiet
import Derived.Deep.QuietTactic
namespace Go.Proofs.Ytkndnoccenlngaa
open Go.ChangeShapes Go.WideShapes Go.ChangeAt Go.RowKit
attribute [local go_sem ↓] Go.wp_at_zero Go.wp_at_succ

section
variable (w : World)
theorem nil_reset : Calls Try.prog 14 #[.pointer none] w fun e w' => e = .returned (.tuple #[]) ∧ w = w' := by
  go_enter Try.func14, Try.ntmps14
  go_wp2_with fail
  refine bodyPost_ret (results_none rfl _ _ _) rfl ?_
  exact ⟨rfl, rfl⟩
theorem nil_add (k : Int) : Calls Try.prog 10 #[.pointer none, .int .i64 k] w fun e w' => e = .returned (.int .i64 0) ∧ w = w' := by
  go_enter Try.func10, Try.ntmps10
  go_wp2_with fail
  go_ret
  exact ⟨rfl, rfl⟩
theorem nil_count (k : Int) : Calls Try.prog 12 #[.pointer none, .int .i64 k] w fun e w' => e = .returned (.int .i64 0) ∧ w = w' := by
  go_enter Try.func12, Try.ntmps12
  go_wp2_with fail
  go_ret
  exact ⟨rfl, rfl⟩
theorem nil_writes : Calls Try.prog 15 #[.pointer none] w fun e w' => e = .returned (.int .i64 0) ∧ w = w' := by
  go_enter Try.func15, Try.ntmps15
  go_wp2_with (go_at_call 12; refine (nil_count _ _).mono ?_; rintro e w' ⟨rfl, rfl⟩)
  go_ret
  exact ⟨rfl, rfl⟩
theorem nil_see (n : Int) : Calls Try.prog 11 #[.pointer none, .int .i64 n] w fun e w' => e = .returned (.int .i64 0) ∧ w = w' := by
  go_enter Try.func11, Try.ntmps11
  go_wp2_with fail
  go_ret
  exact ⟨rfl, rfl⟩
theorem nil_most : Calls Try.prog 13 #[.pointer none] w fun e w' => e = .returned (.int .i64 0) ∧ w = w' := by
  go_enter Try.func13, Try.ntmps13
  go_wp2_with (go_at_call 11; refine (nil_see _ _).mono ?_; rintro e w' ⟨rfl, rfl⟩)
  go_ret
  exact ⟨rfl, rfl⟩
end

theorem addF_len (ns : List Int) (k : Int) : (addF ns k).length = ns.length := by unfold addF; split <;> simp
theorem seeF_len (ns : List Int) (k : Int) : (seeF ns k).length = ns.length := by simp [seeF]
theorem addF_most (ns : List Int) (k : Int) : (addF ns k).getD 5 0 = ns.getD 5 0 := by
  unfold addF; split
  · next h => simp only [List.getD_eq_getElem?_getD]; rw [List.getElem?_set_ne (by omega)]
  · rfl
theorem seeF_most (ns : List Int) (k : Int) (h : 0 ≤ ns.getD 5 0) (hl : ns.length = 6) : 0 ≤ (seeF ns k).getD 5 0 := by
  simp only [seeF, List.getD_eq_getElem?_getD] at *
  rw [List.getElem?_set_self (by omega)]
  simp; omega

/-- The state of a game: both meters hold the same numbers. -/
def Game (W w : World) (gm gq : Nat) (ns : List Int) : Prop :=
  ns.length = 6 ∧ 0 ≤ ns.getD 5 0 ∧ Blk w gm 32 (mcells ns) ∧ Blk w gq 36 (mcells ns) ∧ W.heap.size ≤ gm ∧ W.heap.size ≤ gq ∧ Below W.heap.size W w

theorem m_reset' {w : World} {g : Nat} {t : TypeId} {ns : List Int} (hl : ns.length = 6) (hb : Blk w g t (mcells ns)) :
    Calls Try.prog 14 #[.pointer (some ⟨g, 0, none⟩)] w (MetOk w g t (.tuple #[]) zeros) := by
  match ns, hl, hb with
  | [n0, n1, n2, n3, n4, n5], _, hb => exact m_reset n0 n1 n2 n3 n4 n5 hb

set_option maxHeartbeats 1600000 in
theorem plays (ka : Option Addr) (kl kc : Nat) (na : Option Addr) (nl nc : Nat) (ks ns : List Int) (r : Int) (w : World) (S : Nat → Prop)
    (hk : RepI w S .i64 ka ks) (hn : RepI w S .i64 na ns) (hkl : kl = ks.length) (hnl : nl = ns.length) (hr : 0 ≤ r ∧ r ≤ 255) (hk63 : kl ≤ 9223372036854775807) (hn63 : nl ≤ 9223372036854775807) :
    Calls Try.prog 4 #[.slice ka kl kc, .slice na nl nc, .int .u8 r] w fun e w' => e = .returned (.bool true) ∧ Below w.heap.size w w' := by
  obtain ⟨r, rfl⟩ := Int.eq_ofNat_of_zero_le hr.1
  have hr2 : (r : Int) ≤ 255 := hr.2
  by_cases h1 : 500 < kl
  · clear hkl hnl
    go_enter Try.func4, Try.ntmps4
    go_wp2_with (go_at_call 6; refine (awake _).mono ?_; rintro e w' ⟨rfl, hb⟩)
    go_ret
    exact ⟨rfl, hb⟩
  by_cases h2 : 500 < nl
  · clear hkl hnl
    go_enter Try.func4, Try.ntmps4
    go_wp2_with (go_at_call 6; refine (awake _).mono ?_; rintro e w' ⟨rfl, hb⟩)
    go_ret
    exact ⟨rfl, hb⟩
  subst hkl hnl
  go_enter Try.func4, Try.ntmps4
  go_wp2_with fail
  go_loopw [8, 26] (fun q i wr => ∃ (k gq : Nat) (xs : List Int), k ≤ ks.length ∧ i = .int .i64 k ∧ q = .pointer (some ⟨gq, 0, none⟩) ∧ Game w wr w.heap.size gq xs) (fun _ i _ => ks.length - (intOf i).toNat)
  case atStart => exact ⟨0, w.heap.size + 1, zeros, by omega, rfl, rfl, rfl, by decide, (Blk.new _ _ _).alloc _, Blk.new_at _ _ _ (by simp), Nat.le_refl _, by omega, (Below.new _ _).alloc (by simp) _⟩
  case round =>
    obtain ⟨k, gq, xs, hk', rfl, rfl, hg⟩ := hrel
    obtain ⟨hl, h0, hbm, hbq, hgm, hgq, hbw⟩ := hg
    have hne : w.heap.size ≠ gq := hbm.ne_ hbq (by decide)
    by_cases hlt : k < ks.length
    · obtain ⟨bk, ok, rfl, -, hkb, hkc⟩ := hk.keep hbw k hlt
      generalize ks[k] = x at hkc
      have H1 := Lib.hid (m_add x hl hbm)
      have HL := Lib.hid hl
      clear hl hbm
      go_wp2_with fail
      refine H1.out.mono ?_
      rintro e w1 ⟨rfl, hbm1, hg1⟩
      have hbq1 := hbq.grown hg1 (by simpa using Ne.symm hne)
      have hw1 := hbw.grown hg1 hbw.size (by simp)
      have H2 := Lib.hid (r_add x HL.out hbq1)
      clear hbq hg1 hbw
      go_wp2_with fail
      refine H2.out.mono ?_
      rintro e w2 ⟨rfl, hbq2, hg2⟩
      have hbm2 := hbm1.grown hg2 (by simpa using hne)
      have hw2 := hw1.grown hg2 hw1.size (by simp; omega)
      have hl2 : (addF xs x).length = 6 := by rw [addF_len]; exact HL.out
      have h02 : 0 ≤ (addF xs x).getD 5 0 := by rw [addF_most]; exact h0
      generalize addF xs x = ys at *
      generalize addR xs x = rr at *
      clear H2 hbq1 hg2 hw1 HL h0 hbm1 hkc H1
      have HN := Lib.hid hn
      have HK := Lib.hid hk
      have HKb := Lib.hid hkb
      clear hn hk hkb
      go_wp2_with fail
      by_cases hkn : k < ns.length
      · obtain ⟨bn, on, rfl, -, hnb, hnc⟩ := HN.out.keep hw2 k hkn
        have hnm : bn ≠ w.heap.size := by
          obtain ⟨b', o', e', -, h', -⟩ := HN.out k hkn
          injection e' with e'; injection e' with e1; omega
        generalize ns[k] = y at hnc
        have hbn : bn < w.heap.size := by
          obtain ⟨b', o', e', -, h', -⟩ := HN.out k hkn
          injection e' with e'; injection e' with e1; omega
        have hbq0 : bn ≠ gq := by omega
        have H3 := Lib.hid (m_see (w := w2.drew) y hl2 hbm2.drew)
        have hl3 : (seeF ys y).length = 6 := by rw [seeF_len]; exact hl2
        have h03 : 0 ≤ (seeF ys y).getD 5 0 := seeF_most _ _ h02 hl2
        have HL3 := Lib.hid hl3
        have HL2 := Lib.hid hl2
        have HBQ := Lib.hid hbq2
        have h0k : (0 : Int) ≤ (k : Int) := by omega
        have hkn2 : (k : Int) < (ns.length : Int) := by omega
        have hltk := hlt
        clear hlt hl3 hl2 hbq2 hbm2
        go_region_held3 (fun w' => w'.cell? ⟨bn, on + k, none⟩ = some (.int .i64 y)) (go_keep) (first
          | (go_at_call 11; refine H3.out.mono ?_; rintro e w3 ⟨rfl, hbm3, hg3⟩; have hnc3 : w3.cell? ⟨bn, on + k, none⟩ = some (.int .i64 y) := (World.cell?_of_block (hg3.block bn hnb (by simpa using hnm))).trans hnc)
          | (go_at_call 8; refine (r_see y HL2.out (HBQ.out.drew.grown hg3 (by simpa using Ne.symm hne))).mono ?_; rintro e w4 ⟨rfl, hbq4, hg4⟩; have hnc4 : w4.cell? ⟨bn, on + k, none⟩ = some (.int .i64 y) := (World.cell?_of_block (hg4.block bn (Nat.lt_of_lt_of_le hnb hg3.size) (by simpa using hbq0))).trans hnc3))
        have hw4 := (hw2.drew.grown hg3 hw2.size (by simp)).grown hg4 (by have := hw2.size; have := hg3.size; simp at this; omega) (by simp; omega)
        have hbm4 := hbm3.grown hg4 (by simpa using hne)
        clear hnc hnc3 hnc4 hg3 hg4 hbm3 HL2 HBQ H3 hkn2 h0k hkn HK HKb HN
        generalize seeF ys y = zs at *
        generalize seeR ys y = rz at *
        by_cases hkr : k = r
        · have hkr2 : ((k : Int) == (r : Int)) = true := by simp [hkr]
          have hkr3 : (k == r) = true := by simp [hkr]
          clear hkr
          have HR := Lib.hid (m_reset' HL3.out hbm4)
          clear hbm4
          go_wp2_with fail
          refine HR.out.mono ?_
          rintro e wz ⟨rfl, hbz, hgz⟩
          have hwz := hw4.grown hgz hw4.size (by simp)
          go_wp2_with fail
          go_roundw
          case rel => exact ⟨k + 1, _, zeros, by omega, by go_num, rfl, rfl, by decide, hbz.alloc _, Blk.new_at _ _ _ rfl, Nat.le_refl _, hwz.size, hwz.alloc hwz.size _⟩
          case measure => simp [intOf]; omega
        · have hkr2 : ((k : Int) == (r : Int)) = false := by simp; omega
          clear hkr
          go_wp2_with fail
          go_roundw
          case rel => exact ⟨k + 1, gq, zs, by omega, by go_num, rfl, HL3.out, h03, hbm4, hbq4, Nat.le_refl _, hgq, hw4⟩
          case measure => simp [intOf]; omega
      · have hd : decide ((k : Int) < (ns.length : Int)) = false := by simp; omega
        go_quiet (fail)
        have hw3 := Below.drewN hw2 nq
        have hltk := hlt
        have hbm3 := hbm2.drewN nq
        have hbq3 := hbq2.drewN nq
        have HL2 := Lib.hid hl2
        clear hlt hl2 hbm2 hbq2
        by_cases hkr : k = r
        · have hkr2 : ((k : Int) == (r : Int)) = true := by simp [hkr]
          have hkr3 : (k == r) = true := by simp [hkr]
          clear hkr
          have HR := Lib.hid (m_reset' HL2.out hbm3)
          clear hbm3
          go_wp2_with fail
          refine HR.out.mono ?_
          rintro e wz ⟨rfl, hbz, hgz⟩
          have hwz := hw3.grown hgz hw3.size (by simp)
          go_wp2_with fail
          go_roundw
          case rel => exact ⟨k + 1, _, zeros, by omega, by go_num, rfl, rfl, by decide, hbz.alloc _, Blk.new_at _ _ _ rfl, Nat.le_refl _, hwz.size, hwz.alloc hwz.size _⟩
          case measure => simp [intOf]; omega
        · have hkr2 : ((k : Int) == (r : Int)) = false := by simp; omega
          clear hkr
          go_wp2_with fail
          go_roundw
          case rel => exact ⟨k + 1, gq, ys, by omega, by go_num, rfl, HL2.out, h02, hbm3, hbq3, Nat.le_refl _, hgq, hw3⟩
          case measure => simp [intOf]; omega
    · obtain rfl : k = ks.length := by omega
      have HN := Lib.hid hn
      have HK := Lib.hid hk
      have HL := Lib.hid hl
      have HBM := Lib.hid hbm
      have HBQ := Lib.hid hbq
      clear hn hk hl hlt hbm hbq
      go_wp2_with fail
      go_loopw [63] (fun i wr => ∃ j : Nat, j ≤ 5 ∧ i = .int .i64 j ∧ Blk wr w.heap.size 32 (mcells xs) ∧ Blk wr gq 36 (mcells xs) ∧ Below w.heap.size w wr) (fun i _ => 5 - (intOf i).toNat)
      case atStart => exact ⟨0, by omega, rfl, HBM.out, HBQ.out, hbw⟩
      case round =>
        clear HBM HBQ hbw
        obtain ⟨j, hj, rfl, hbm, hbq, hbw⟩ := hrel
        have HBM := Lib.hid hbm
        have HBQ := Lib.hid hbq
        clear hbm hbq
        by_cases hj5 : j < 5
        · have hc := cel HBQ.out j (by have := HL.out; omega)
          have H := fun W (h : Blk W w.heap.size 32 (mcells xs)) => Lib.hid (count_at j hj5 HL.out h)
          generalize xs.getD j 0 = y at hc H
          have HH := Lib.hid H
          clear H
          have h0j : (0 : Int) ≤ (j : Int) := by omega
          have hj5' : (j : Int) < 5 := by omega
          go_wp2_with fail
          go_region_held3 (fun w' => w'.cell? ⟨gq, j, none⟩ = some (.int .i64 y)) (go_keep) (first
            | (go_at_call 12; refine ((HH.out _ (HBM.out.drew)).out).mono ?_; rintro e w' ⟨rfl, rfl⟩))
          go_wp2_with fail
          go_roundw
          case rel => exact ⟨j + 1, by omega, by go_num, HBM.out.drew, HBQ.out.drew, hbw.drew⟩
          case measure => simp [intOf]; omega
        · obtain rfl : j = 5 := by omega
          clear hj hj5
          go_wp2_with fail
          refine (nil_reset _).mono ?_
          rintro e w' ⟨rfl, rfl⟩
          have s1 := cel HBQ.out 1 (by have := HL.out; omega)
          have s2 := cel HBQ.out 2 (by have := HL.out; omega)
          have s3 := cel HBQ.out 3 (by have := HL.out; omega)
          have s5 := cel HBQ.out 5 (by have := HL.out; omega)
          have hgl : gq < wr.heap.size := HBQ.out.lt
          have HW := Lib.hid (fun W (h : Blk W w.heap.size 32 (mcells xs)) => m_writes HL.out h)
          have HM := Lib.hid (fun W (h : Blk W w.heap.size 32 (mcells xs)) => m_most h0 HL.out h)
          have HC := Lib.hid (fun W (h : Blk W w.heap.size 32 (mcells xs)) => m_count 9 HL.out h)
          have hc9 : (if (0 : Int) ≤ 9 ∧ (9 : Int) < 5 then xs.getD (9 : Int).toNat 0 else 0) = 0 := if_neg (by omega)
          rw [hc9] at HC
          clear hc9
          generalize xs.getD 1 0 = y1 at s1 HW
          generalize xs.getD 2 0 = y2 at s2 HW
          generalize xs.getD 3 0 = y3 at s3 HW
          generalize xs.getD 5 0 = y5 at s5 HM h0
          have q1 : IntKind.i64.wrap (y1 + y2) = wrap64 (y1 + y2) := by simp [wrap64, IntKind.wrap_i64]
          have q2 : IntKind.i64.wrap (wrap64 (y1 + y2) + y3) = wrap64 (wrap64 (y1 + y2) + y3) := by simp [wrap64, IntKind.wrap_i64]
          generalize wrap64 (wrap64 (y1 + y2) + y3) = z2 at q2 HW
          generalize wrap64 (y1 + y2) = z1 at q1 q2
          go_wp2_with fail
          go_region_held3 (fun w' => w'.cell? ⟨gq, 1, none⟩ = some (.int .i64 y1) ∧ w'.cell? ⟨gq, 2, none⟩ = some (.int .i64 y2) ∧ w'.cell? ⟨gq, 3, none⟩ = some (.int .i64 y3) ∧ w'.cell? ⟨gq, 5, none⟩ = some (.int .i64 y5)) (go_keep) (first
            | (go_at_call 6; refine (awake _).mono ?_; rintro e w1 ⟨rfl, hb1⟩; have t1 := (hb1.cell (p := ⟨gq, 1, none⟩) hgl).trans s1; have t2 := (hb1.cell (p := ⟨gq, 2, none⟩) hgl).trans s2; have t3 := (hb1.cell (p := ⟨gq, 3, none⟩) hgl).trans s3; have t5 := (hb1.cell (p := ⟨gq, 5, none⟩) hgl).trans s5; have HB1 := Lib.hid hb1; clear hb1)
            | (go_at_call 15; first | ((with_reducible refine (nil_writes _).mono ?_); rintro e w' ⟨rfl, rfl⟩) | ((with_reducible refine (HW.out _ (HBM.out.drew.keep HB1.out)).mono ?_); rintro e w' ⟨rfl, rfl⟩))
            | (go_at_call 10; (with_reducible refine (nil_add _ _).mono ?_); rintro e w' ⟨rfl, rfl⟩)
            | (go_at_call 11; (with_reducible refine (nil_see _ _).mono ?_); rintro e w' ⟨rfl, rfl⟩)
            | (go_at_call 12; first | ((with_reducible refine (nil_count _ _).mono ?_); rintro e w' ⟨rfl, rfl⟩) | (refine (HC.out _ hbm2).mono ?_; rintro e w' ⟨rfl, rfl⟩))
            | (go_at_call 13; first | ((with_reducible refine (nil_most _).mono ?_); rintro e w' ⟨rfl, rfl⟩) | (refine (HM.out _ (HBM.out.drew.keep HB1.out)).mono ?_; rintro e w2 ⟨rfl, hbm2, hg2⟩; have u1 := (World.cell?_of_block (hg2.block gq (Nat.lt_of_lt_of_le hgl HB1.out.size) (by simp; omega))).trans t1; have u2 := (World.cell?_of_block (hg2.block gq (Nat.lt_of_lt_of_le hgl HB1.out.size) (by simp; omega))).trans t2; have u3 := (World.cell?_of_block (hg2.block gq (Nat.lt_of_lt_of_le hgl HB1.out.size) (by simp; omega))).trans t3; have u5 := (World.cell?_of_block (hg2.block gq (Nat.lt_of_lt_of_le hgl HB1.out.size) (by simp; omega))).trans t5)))
          all_goals go_wp2_with fail
          go_ret
          exact ⟨rfl, ((hbw.drew.trans (HB1.out.mono hbw.size)).grown hg2 (Nat.le_trans hbw.size HB1.out.size) (by simp))⟩

end Go.Proofs.Ytkndnoccenlngaa
