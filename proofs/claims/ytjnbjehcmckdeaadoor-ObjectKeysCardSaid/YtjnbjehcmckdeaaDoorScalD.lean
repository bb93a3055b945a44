/- scalar.Quote, double, single, Unquote. -/
import Derived.Test.YtjnbjehcmckdeaaDoorScalQ
import Derived.Test.YtjnbjehcmckdeaaDoorBld
import Derived.Deep.RegionWith
namespace Go.Proofs.YtjnbjehcmckdeaaDoor
open Go.RowKit
attribute [local go_sem ↓] Go.wp_at_zero Go.wp_at_succ

def FreshPost (w : World) (l : List UInt8) (e : Ending) (w' : World) : Prop := ∃ v : ByteArray, e = .returned (.string v) ∧ v.data.toList = l ∧ Below w.heap.size w w'
theorem bstr_drew {b : Nat} {l : List UInt8} {w : World} (h : Bld b l w) (hb : b ≤ w.heap.size) :
    Calls Tryd.prog 90 #[.pointer (some ⟨b, 0, none⟩)] w.drew fun e w' => e = .returned (.string ⟨l.toArray⟩) ∧ Below b w w' := by
  refine (bstr (w := w.drew) (l := l) h hb).mono ?_
  rintro e w' ⟨rfl, -, h2⟩
  exact ⟨rfl, (Below.refl b w).drew.trans h2⟩

set_option maxRecDepth 100000 in
set_option maxHeartbeats 4000000 in
theorem tsquote (s : ByteArray) (hs : s.size ≤ 1000000) (w : World) : Calls Tryd.prog 49 #[.string s] w (FreshPost w (quoteL s.data.toList)) := by
  have H0 := Lib.hid (Bld.new w)
  have B0 := Lib.hid (Below.new w (.cells #[.pointer none, .slice none 0 0] 115))
  go_enter Tryd.func49, Tryd.ntmps49
  go_wp2_with fail
  refine (wbyte (c := 34) H0.out (by simp) (by simp) rfl).mono ?_
  rintro e w1 ⟨rfl, hB1, hb1⟩
  have H1 := Lib.hid hB1
  have B1 := Lib.hid (B0.out.trans hb1)
  clear hB1 hb1 H0 B0
  go_wp2_with fail
  go_loopw [9] (fun x9 wr => ∃ (q : Nat), x9 = .int .i64 q ∧ q ≤ s.size ∧ Hid (Bld w.heap.size (34 :: escL (s.data.toList.take q)) wr) ∧ Hid (Below w.heap.size w wr)) (fun x9 _ => s.size - (intOf x9).toNat)
  case atStart => exact ⟨0, rfl, Nat.zero_le _, by simpa [escL] using H1, B1⟩
  case round =>
    obtain ⟨q, rfl, hq, HR, HW⟩ := hrel
    have hwb := Lib.hid HW.out.size
    have hlen : Hid ((34 :: escL (s.data.toList.take q)).length ≤ 10000000) := by
      have h2 := escL_len (s.data.toList.take q)
      have h3 := List.length_take_le q s.data.toList
      refine Lib.hid ?_
      rw [List.length_cons]; omega
    by_cases hlt : q < s.size
    · have hq2 : (q : Int) < s.size := by omega
      have h256 := UInt8.toNat_lt s[q]
      have HN := Lib.hid (show ∀ (x : List UInt8), x = esc1 s[q] → (34 :: escL (s.data.toList.take q)) ++ x = 34 :: escL (s.data.toList.take (q + 1)) from fun x h1 => by rw [h1, take_byte hlt, escL_snoc]; rfl)
      by_cases c10 : s[q] = 10
      · have d10 : ((s[q].toNat : Int) == 10) = true := by rw [c10]; rfl
        have HC := Lib.hid (show esc1 s[q] = [92, 110] from by rw [esc1, if_pos c10])
        clear c10
        go_wp2_with fail
        refine (wstr HR.out (by have := hlen.out; omega) (by decide) hwb.out).mono ?_
        rintro e w2 ⟨rfl, hB2, hb2⟩
        go_wp2_with fail
        go_round
        case rel => exact ⟨q + 1, by go_num, by omega, Lib.hid (by rw [← HN.out _ HC.out.symm]; exact hB2), Lib.hid (HW.out.trans hb2)⟩
        case measure => simp [intOf]; omega
      · have d10 : ((s[q].toNat : Int) == 10) = false := beq_eq_false_iff_ne.2 (fun h => c10 (UInt8.toNat_inj.1 (by show _ = 10; omega)))
        by_cases c9 : s[q] = 9
        · have d9 : ((s[q].toNat : Int) == 9) = true := by rw [c9]; rfl
          have HC := Lib.hid (show esc1 s[q] = [92, 116] from by rw [esc1, if_neg c10, if_pos c9])
          clear c10 c9
          go_wp2_with fail
          refine (wstr HR.out (by have := hlen.out; omega) (by decide) hwb.out).mono ?_
          rintro e w2 ⟨rfl, hB2, hb2⟩
          go_wp2_with fail
          go_round
          case rel => exact ⟨q + 1, by go_num, by omega, Lib.hid (by rw [← HN.out _ HC.out.symm]; exact hB2), Lib.hid (HW.out.trans hb2)⟩
          case measure => simp [intOf]; omega
        · have d9 : ((s[q].toNat : Int) == 9) = false := beq_eq_false_iff_ne.2 (fun h => c9 (UInt8.toNat_inj.1 (by show _ = 9; omega)))
          by_cases c34 : s[q] = 34
          · have d34 : ((s[q].toNat : Int) == 34) = true := by rw [c34]; rfl
            have HC := Lib.hid (show esc1 s[q] = [92, s[q]] from by rw [esc1, if_neg c10, if_neg c9, if_pos (.inl c34)])
            clear c10 c9 c34
            go_wp2_with fail
            refine (wbyte (c := 92) HR.out (by have := hlen.out; omega) hwb.out rfl).mono ?_
            rintro e w2 ⟨rfl, hB2, hb2⟩
            have H2 := Lib.hid hB2
            have B2 := Lib.hid (HW.out.trans hb2)
            clear hB2 hb2
            go_wp2_with fail
            refine (wbyte (c := s[q]) H2.out (by have := hlen.out; rw [List.length_append]; simp only [List.length_cons, List.length_nil] at *; omega) B2.out.size rfl).mono ?_
            rintro e w3 ⟨rfl, hB3, hb3⟩
            go_wp2_with fail
            go_round
            case rel => exact ⟨q + 1, by go_num, by omega, Lib.hid (by rw [← HN.out _ HC.out.symm]; rw [List.append_assoc] at hB3; exact hB3), Lib.hid (B2.out.trans hb3)⟩
            case measure => simp [intOf]; omega
          · have d34 : ((s[q].toNat : Int) == 34) = false := beq_eq_false_iff_ne.2 (fun h => c34 (UInt8.toNat_inj.1 (by show _ = 34; omega)))
            by_cases c92 : s[q] = 92
            · have d92 : ((s[q].toNat : Int) == 92) = true := by rw [c92]; rfl
              have HC := Lib.hid (show esc1 s[q] = [92, s[q]] from by rw [esc1, if_neg c10, if_neg c9, if_pos (.inr c92)])
              clear c10 c9 c34 c92
              go_wp2_with fail
              refine (wbyte (c := 92) HR.out (by have := hlen.out; omega) hwb.out rfl).mono ?_
              rintro e w2 ⟨rfl, hB2, hb2⟩
              have H2 := Lib.hid hB2
              have B2 := Lib.hid (HW.out.trans hb2)
              clear hB2 hb2
              go_wp2_with fail
              refine (wbyte (c := s[q]) H2.out (by have := hlen.out; rw [List.length_append]; simp only [List.length_cons, List.length_nil] at *; omega) B2.out.size rfl).mono ?_
              rintro e w3 ⟨rfl, hB3, hb3⟩
              go_wp2_with fail
              go_round
              case rel => exact ⟨q + 1, by go_num, by omega, Lib.hid (by rw [← HN.out _ HC.out.symm]; rw [List.append_assoc] at hB3; exact hB3), Lib.hid (B2.out.trans hb3)⟩
              case measure => simp [intOf]; omega
            · have d92 : ((s[q].toNat : Int) == 92) = false := beq_eq_false_iff_ne.2 (fun h => c92 (UInt8.toNat_inj.1 (by show _ = 92; omega)))
              have HC := Lib.hid (show esc1 s[q] = [s[q]] from by rw [esc1, if_neg c10, if_neg c9, if_neg (by rintro (h | h) <;> contradiction)])
              clear c10 c9 c34 c92
              go_wp2_with fail
              refine (wbyte (c := s[q]) HR.out (by have := hlen.out; omega) hwb.out rfl).mono ?_
              rintro e w2 ⟨rfl, hB2, hb2⟩
              go_wp2_with fail
              go_round
              case rel => exact ⟨q + 1, by go_num, by omega, Lib.hid (by rw [← HN.out _ HC.out.symm]; exact hB2), Lib.hid (HW.out.trans hb2)⟩
              case measure => simp [intOf]; omega
    · have hq2 : q = s.size := by omega
      have HQ := Lib.hid (show (34 :: escL (s.data.toList.take q)) ++ [34] = quoteL s.data.toList from by rw [hq2, size_list, List.take_length]; rfl)
      have hq3 : ¬ (q : Int) < s.size := by omega
      clear hq2 hlt hq
      go_wp2_with fail
      refine (wbyte (c := 34) HR.out (by have := hlen.out; omega) hwb.out rfl).mono ?_
      rintro e w2 ⟨rfl, hB2, hb2⟩
      rw [HQ.out] at hB2
      have H2 := Lib.hid hB2
      have B2 := Lib.hid (HW.out.trans hb2)
      clear hB2 hb2
      go_wp2_with fail
      refine (bstr H2.out B2.out.size).mono ?_
      rintro e w3 ⟨rfl, -, hb3⟩
      go_wp2_with fail
      go_ret
      exact ⟨_, rfl, rfl, B2.out.trans hb3⟩
end Go.Proofs.YtjnbjehcmckdeaaDoor
