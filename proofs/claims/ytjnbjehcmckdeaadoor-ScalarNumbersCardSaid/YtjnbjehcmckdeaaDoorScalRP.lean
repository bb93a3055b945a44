/- mizzenref04.Parse (printed by gen/scalrp.py). -/
import Derived.Test.YtjnbjehcmckdeaaDoorScalN
import Derived.Deep.RegionHeld3
namespace Go.Proofs.YtjnbjehcmckdeaaDoor
open Go.RowKit
attribute [local go_sem ↓] Go.wp_at_zero Go.wp_at_succ

/-- The last steps: what the digits come to. -/
theorem val_step {m : ByteArray} {q : Nat} (h : q < m.size) : valFrom 0 (m.data.toList.take (q + 1)) = valFrom 0 (m.data.toList.take q) * 10 + (m[q].toNat - 48) := by
  rw [take_byte h, valFrom_app]; rfl
theorem val_more (l : List UInt8) (k : Nat) : valFrom 0 (l.take k) ≤ valFrom 0 l := by
  conv => rhs; rw [← List.take_append_drop k l]
  rw [valFrom_app]
  exact valFrom_le _ _
theorem u8_sub {c : UInt8} (h1 : 48 ≤ c.toNat) : IntKind.u8.wrap ((c.toNat : Int) - 48) = ((c.toNat - 48 : Nat) : Int) := by
  have := UInt8.toNat_lt c
  have e : (c.toNat : Int) - 48 = ((c.toNat - 48 : Nat) : Int) := by omega
  rw [e]
  show ((c.toNat - 48 : Nat) : Int) % 256 = _
  omega
set_option maxRecDepth 100000 in
set_option maxHeartbeats 16000000 in
theorem rparse (s : ByteArray) (hs : s.size ≤ 140737488351232) (w : World) : Calls Tryd.prog 34 #[.string s] w (ParsePost w (parseV s) (parseE s)) := by
  have e0 := empty_eq s
  have e1 := word_eq s [126]
  have e2 := word_eq s [110, 117, 108, 108]
  have e3 := word_eq s [116, 114, 117, 101]
  have e4 := word_eq s [102, 97, 108, 115, 101]
  have HB := Lib.hid (Below.new w (.cells #[.int .i64 0, .bool false, .int .i64 0, .string ⟨#[]⟩, .slice none 0 0, .slice none 0 0] 38))
  have HK := Lib.hid (Blk.new w 38 #[.int .i64 0, .bool false, .int .i64 0, .string ⟨#[]⟩, .slice none 0 0, .slice none 0 0])
  have nul : nullish s.data.toList → (s.toList.isEmpty = true ∨ (s.toList.isEmpty = false ∧ (s.toList == [126]) = true) ∨ (s.toList.isEmpty = false ∧ (s.toList == [126]) = false ∧ (s.toList == [110, 117, 108, 108]) = true)) := fun h => by
    rw [e0, e1, e2]
    by_cases h1 : s.data.toList = []
    · left; simp [h1]
    · by_cases h2 : s.data.toList = [126]
      · right; left; simp [h2]
      · right; right
        rcases h with h | h | h
        · exact absurd h h1
        · exact absurd h h2
        · simp [h1, h2]; exact h
  by_cases hz : nullish s.data.toList
  · have HP := Lib.hid (parse_is (s := s) (t := T.zero) (by rw [parseT, if_pos hz]))
    rcases nul hz with f0 | ⟨f0, f1⟩ | ⟨f0, f1, f2⟩
    all_goals
      clear e0 e1 e2 e3 e4 nul hz
      go_enter Tryd.func34, Tryd.ntmps34
      go_wp2_with fail
      exact ret_cell2 rfl rfl rfl (Blk.new _ _ _) Tryd.underlying38 val_size rfl ⟨_, by rw [HP.out.2]; rfl, fun w2 S => by rw [HP.out.1]; exact rep_zero _ _, Below.new _ _⟩
  have f0 : s.toList.isEmpty = false := by rw [e0]; exact decide_eq_false (fun e => hz (.inl e))
  have f1 : (s.toList == [126]) = false := by rw [e1]; exact decide_eq_false (fun e => hz (.inr (.inl e)))
  have f2 : (s.toList == [110, 117, 108, 108]) = false := by rw [e2]; exact decide_eq_false (fun e => hz (.inr (.inr e)))
  have hne : s.data.toList ≠ [] := fun e => hz (.inl e)
  clear e0 e1 e2 nul
  by_cases ht : s.data.toList = trueW
  · have f3 : (s.toList == [116, 114, 117, 101]) = true := by rw [e3]; exact decide_eq_true ht
    have HP := Lib.hid (parse_is (s := s) (t := tB true) (by rw [parseT, if_neg hz, if_pos ht]))
    clear e3 e4 hz hne ht
    go_enter Tryd.func34, Tryd.ntmps34
    go_wp2_with fail
    exact ret_cell2 rfl rfl rfl (Blk.new _ _ _) Tryd.underlying38 val_size rfl ⟨_, by rw [HP.out.2]; rfl, fun w2 S => by rw [HP.out.1]; exact rep_leaf _ _ 1 true 0 ⟨#[]⟩ (by unfold i64ok; omega) (by unfold i64ok; omega) (by decide), Below.new _ _⟩
  have f3 : (s.toList == [116, 114, 117, 101]) = false := by rw [e3]; exact decide_eq_false ht
  by_cases hf : s.data.toList = falseW
  · have f4 : (s.toList == [102, 97, 108, 115, 101]) = true := by rw [e4]; exact decide_eq_true hf
    have HP := Lib.hid (parse_is (s := s) (t := tB false) (by rw [parseT, if_neg hz, if_neg ht, if_pos hf]))
    clear e3 e4 hz hne ht hf
    go_enter Tryd.func34, Tryd.ntmps34
    go_wp2_with fail
    exact ret_cell2 rfl rfl rfl (Blk.new _ _ _) Tryd.underlying38 val_size rfl ⟨_, by rw [HP.out.2]; rfl, fun w2 S => by rw [HP.out.1]; exact rep_leaf _ _ 1 false 0 ⟨#[]⟩ (by unfold i64ok; omega) (by unfold i64ok; omega) (by decide), Below.new _ _⟩
  have f4 : (s.toList == [102, 97, 108, 115, 101]) = false := by rw [e4]; exact decide_eq_false hf
  clear e3 e4
  have hpos : 0 < s.size := by
    rw [size_list]; exact List.length_pos_iff.2 hne
  have hposI : (0 : Int) < s.size := by omega
  have h256 := UInt8.toNat_lt s[0]
  -- what is to be shown of the digits
  have HS := Lib.hid (show ∀ (m : ByteArray), m.data.toList = mag s.data.toList → ((m.size = 0 ∨ ¬ m.data.toList.all digitB = true) → parseV s = tS s ∧ parseE s = 0) ∧ (m.size ≠ 0 → m.data.toList.all digitB = true → ((∀ n, intL s.data.toList = some n → parseV s = tN n ∧ parseE s = 0) ∧ (intL s.data.toList = none → parseV s = T.zero ∧ parseE s = 9))) from fun m hm => by
    have hN : numL s.data.toList = (m.data.toList.all digitB && !m.data.toList.isEmpty) := by rw [numL, hm]
    refine ⟨fun h => parse_is ?_, fun h1 h2 => ⟨fun n hn => parse_is (parse_int ?_ hn), fun hn => parse_over ?_⟩⟩
    · rw [parseT, if_neg hz, if_neg ht, if_neg hf, if_neg]
      rw [hN, Bool.and_eq_true]
      rintro ⟨ha, hb⟩
      rcases h with h | h
      · have : m.data.toList = [] := List.length_eq_zero_iff.1 (by rw [← size_list]; exact h)
        rw [this] at hb; simp at hb
      · exact h ha
    all_goals
      have hT : numL s.data.toList = true := by
        rw [hN, h2, Bool.true_and, Bool.not_eq_true', Bool.eq_false_iff]
        intro e
        rw [List.isEmpty_iff] at e
        rw [size_list, e] at h1; exact h1 rfl
    · exact hT
    · rw [parseT, if_neg hz, if_neg ht, if_neg hf, if_pos hT, hn]; rfl)
  have HL := Lib.hid (byte_list hpos)
  clear hz ht hf hne
  by_cases c45 : s[0] = 45
  · have d45 : ((s[0].toNat : Int) == 45) = true := by rw [c45]; rfl
    have hM : minus s.data.toList = true := by
      have := HL.out
      rw [List.drop_zero, c45] at this
      rw [this]; rfl
    obtain ⟨m, hm⟩ : ∃ m, s.extract 1 s.size = m := ⟨_, rfl⟩
    have HM : minus s.data.toList = true := hM
    have HG : mag s.data.toList = m.data.toList := by rw [mag, hM, ← hm, tail_list]; simp
    have hone : (1 : Int) ≤ s.size := by omega
    clear hM c45
    have HI := Lib.hid (show intL s.data.toList = if valFrom 0 m.data.toList ≤ 9223372036854775808 then some (-(valFrom 0 m.data.toList : Int)) else none by rw [intL, HM, HG]; rfl)
    have HMS := Lib.hid (HS.out m HG.symm)
    have hms : m.size ≤ 140737488351232 := by
      have := congrArg List.length HG
      have := mag_len s.data.toList
      rw [size_list] at hs ⊢; omega
    clear HM HG HS
    generalize hV : parseV s = tv at *
    generalize hE : parseE s = te at *
    generalize hIn : intL s.data.toList = oi at *
    clear hV hE hIn
    by_cases hm0 : m.size = 0
    · have g0 : ((m.size : Int) == 0) = true := by rw [hm0]; rfl
      have HP := Lib.hid (HMS.out.1 (.inl hm0))
      clear hm0 HMS HI
      go_enter Tryd.func34, Tryd.ntmps34
      go_wp2_with fail
      exact ret_cell2 rfl rfl rfl (Blk.new _ _ _) Tryd.underlying38 val_size rfl ⟨_, by rw [HP.out.2]; rfl, fun w2 S => by rw [HP.out.1]; exact rep_leaf _ _ 3 false 0 s (by unfold i64ok; omega) (by unfold i64ok; omega) hs, Below.new _ _⟩
    have g0 : ((m.size : Int) == 0) = false := by rw [beq_eq_false_iff_ne]; omega
    go_enter Tryd.func34, Tryd.ntmps34
    go_wp2_with fail
    go_loop [6] (fun x6 => ∃ (q : Nat), x6 = .int .i64 q ∧ q ≤ m.size ∧ Hid ((m.data.toList.take q).all digitB = true)) (fun x6 => m.size - (intOf x6).toNat)
    case atStart => exact ⟨0, rfl, Nat.zero_le _, Lib.hid (by simp)⟩
    case round =>
      obtain ⟨q, rfl, hq, HR⟩ := hrel
      by_cases hlt : q < m.size
      case pos =>
        have hq2 : (q : Int) < m.size := by omega
        have h257 := UInt8.toNat_lt m[q]
        have HT := Lib.hid (take_byte hlt)
        by_cases hd : digitB m[q] = true
        · have hd2 : 48 ≤ m[q].toNat ∧ m[q].toNat ≤ 57 := by simpa [digitB] using hd
          have i1 : (48 : Int) ≤ m[q].toNat := by omega
          have i2 : (m[q].toNat : Int) ≤ 57 := by omega
          have HD := Lib.hid hd
          clear hd hd2
          go_wp2_with fail
          go_round
          case rel => exact ⟨q + 1, by go_num, by omega, Lib.hid (by rw [HT.out, List.all_append, HR.out]; simp [HD.out])⟩
          case measure => simp [intOf]; omega
        · have hd2 : m[q].toNat < 48 ∨ (48 ≤ m[q].toNat ∧ 57 < m[q].toNat) := by
            have : ¬ (48 ≤ m[q].toNat ∧ m[q].toNat ≤ 57) := fun h => hd (by simpa [digitB] using h)
            omega
          have HP := Lib.hid (HMS.out.1 (.inr (fun ha => hd (List.all_eq_true.1 ha m[q] (List.getElem_mem (by simpa using hlt : q < m.data.toList.length))))))
          clear hd HMS HI
          rcases hd2 with i1 | ⟨i0, i2⟩
          · have i1' : (m[q].toNat : Int) < 48 := by omega
            clear i1
            go_wp2_with fail
            exact ret_cell2 rfl rfl rfl (Blk.new _ _ _) Tryd.underlying38 val_size rfl ⟨_, by rw [HP.out.2]; rfl, fun w2 S => by rw [HP.out.1]; exact rep_leaf _ _ 3 false 0 s (by unfold i64ok; omega) (by unfold i64ok; omega) hs, Below.new _ _⟩
          · have i0' : (48 : Int) ≤ m[q].toNat := by omega
            have i2' : (57 : Int) < m[q].toNat := by omega
            clear i0 i2
            go_wp2_with fail
            exact ret_cell2 rfl rfl rfl (Blk.new _ _ _) Tryd.underlying38 val_size rfl ⟨_, by rw [HP.out.2]; rfl, fun w2 S => by rw [HP.out.1]; exact rep_leaf _ _ 3 false 0 s (by unfold i64ok; omega) (by unfold i64ok; omega) hs, Below.new _ _⟩
      case neg =>
        have hq3 : ¬ (q : Int) < m.size := by omega
        have HA := Lib.hid (show m.data.toList.all digitB = true by
          have := HR.out
          rwa [List.take_of_length_le (by rw [← size_list]; omega)] at this)
        have HX := Lib.hid (HMS.out.2 hm0 HA.out)
        clear hlt hq HMS HR
        go_wp2_with fail
        clear hq3
        go_loop [7, 8] (fun x7 x8 => ∃ (n : Int) (q : Nat), x7 = .int .i64 n ∧ x8 = .int .i64 q ∧ q ≤ m.size ∧ Hid (n = -(valFrom 0 (m.data.toList.take q) : Int) ∧ valFrom 0 (m.data.toList.take q) ≤ 9223372036854775808)) (fun _ x8 => m.size - (intOf x8).toNat)
        case atStart => exact ⟨0, 0, rfl, rfl, Nat.zero_le _, Lib.hid (by simp [valFrom_nil])⟩
        case round =>
          obtain ⟨n, q, rfl, rfl, hq, HR⟩ := hrel
          by_cases hlt : q < m.size
          case pos =>
            have hq2 : (q : Int) < m.size := by omega
            have h257 := UInt8.toNat_lt m[q]
            have hdg : digitB m[q] = true := List.all_eq_true.1 HA.out m[q] (List.getElem_mem (by simpa using hlt : q < m.data.toList.length))
            have hd2 : 48 ≤ m[q].toNat ∧ m[q].toNat ≤ 57 := by simpa [digitB] using hdg
            obtain ⟨k, hk⟩ : ∃ k : Nat, k = m[q].toNat - 48 := ⟨_, rfl⟩
            have hsub : IntKind.u8.wrap ((m[q].toNat : Int) - 48) = (k : Int) := by rw [u8_sub hd2.1, hk]
            have hk9 : k ≤ 9 := by omega
            have HS2 := Lib.hid (show valFrom 0 (m.data.toList.take (q + 1)) = valFrom 0 (m.data.toList.take q) * 10 + k by rw [val_step hlt, hk])
            have HV := Lib.hid (val_more m.data.toList (q + 1))
            obtain ⟨hn1, hn2⟩ := HR.out
            clear hdg hd2 hk
            by_cases ho : 9223372036854775808 < valFrom 0 (m.data.toList.take q) * 10 + k
            · have HP := Lib.hid (HX.out.2 (by rw [HI.out]; rw [if_neg (by have := HS2.out; have := HV.out; omega)]))
              have ho2 : n < -922337203685477580 ∨ (-922337203685477580 ≤ n ∧ (n == -922337203685477580) = true ∧ (8 : Int) < k) := by
                by_cases h1 : n < -922337203685477580
                · exact .inl h1
                · right
                  refine ⟨by omega, ?_, by omega⟩
                  rw [beq_iff_eq]; omega
              clear ho hn1 hn2 HX HI HR
              rcases ho2 with i1 | ⟨i0, i1, i2⟩
              all_goals
                go_wp2_with fail
                exact ret_cell2 rfl rfl rfl (Blk.new _ _ _) Tryd.underlying38 val_size rfl ⟨_, by rw [HP.out.2]; rfl, fun w2 S => by rw [HP.out.1]; exact rep_zero _ _, Below.new _ _⟩
            · have ho2 : -922337203685477580 ≤ n ∧ ((n == -922337203685477580) = false ∨ ((n == -922337203685477580) = true ∧ (k : Int) ≤ 8)) := by
                refine ⟨by omega, ?_⟩
                by_cases h1 : n = -922337203685477580
                · right; exact ⟨by rw [beq_iff_eq]; exact h1, by omega⟩
                · left; rw [beq_eq_false_iff_ne]; exact h1
              have hmul : IntKind.i64.wrap (n * 10) = n * 10 := wrap_fit (by omega) (by omega)
              have hsb : IntKind.i64.wrap (n * 10 - k) = n * 10 - k := wrap_fit (by omega) (by omega)
              have HN := Lib.hid (show n * 10 - (k : Int) = -(valFrom 0 (m.data.toList.take (q + 1)) : Int) ∧ valFrom 0 (m.data.toList.take (q + 1)) ≤ 9223372036854775808 by have := HS2.out; omega)
              clear ho hn1 hn2
              obtain ⟨i0, i1 | ⟨i1, i2⟩⟩ := ho2
              all_goals
                go_wp2_with fail
                go_round
                case rel => exact ⟨n * 10 - k, q + 1, by first | rfl | go_num, by go_num, by omega, HN⟩
                case measure => simp [intOf]; omega
          case neg =>
            have hq3 : ¬ (q : Int) < m.size := by omega
            have HR2 := Lib.hid (show n = -(valFrom 0 m.data.toList : Int) ∧ valFrom 0 m.data.toList ≤ 9223372036854775808 by
              have := HR.out
              rwa [List.take_of_length_le (by rw [← size_list]; omega)] at this)
            clear HR hlt hq
            have HP := Lib.hid (HX.out.1 n (by rw [HI.out, if_pos HR2.out.2, HR2.out.1]))
            have hn : i64ok n := by unfold i64ok; have := HR2.out; omega
            have HN := Lib.hid hn
            clear hn
            go_wp2_with fail
            exact ret_cell2 rfl rfl rfl (Blk.new _ _ _) Tryd.underlying38 val_size rfl ⟨_, by rw [HP.out.2]; rfl, fun w2 S => by rw [HP.out.1]; exact rep_leaf _ _ 2 false n ⟨#[]⟩ (by unfold i64ok; omega) HN.out (by decide), Below.new _ _⟩

  · have d45 : ((s[0].toNat : Int) == 45) = false := beq_eq_false_iff_ne.2 (fun h => c45 (UInt8.toNat_inj.1 (by show _ = 45; omega)))
    have hM : minus s.data.toList = false := by
      have := HL.out
      rw [List.drop_zero] at this
      rw [this]; simp [minus, c45]
    have HM : minus s.data.toList = false := hM
    have HG : mag s.data.toList = s.data.toList := by rw [mag, hM]; simp
    clear hM c45
    have HI := Lib.hid (show intL s.data.toList = if valFrom 0 s.data.toList < 9223372036854775808 then some (valFrom 0 s.data.toList : Int) else none by rw [intL, HM, HG]; rfl)
    have HMS := Lib.hid (HS.out s HG.symm)
    have hms : s.size ≤ 140737488351232 := by
      have := congrArg List.length HG
      have := mag_len s.data.toList
      rw [size_list] at hs ⊢; omega
    clear HM HG HS
    generalize hV : parseV s = tv at *
    generalize hE : parseE s = te at *
    generalize hIn : intL s.data.toList = oi at *
    clear hV hE hIn
    by_cases hm0 : s.size = 0
    · exact absurd hm0 (by omega)
    have g0 : ((s.size : Int) == 0) = false := by rw [beq_eq_false_iff_ne]; omega
    go_enter Tryd.func34, Tryd.ntmps34
    go_wp2_with fail
    go_loop [6] (fun x6 => ∃ (q : Nat), x6 = .int .i64 q ∧ q ≤ s.size ∧ Hid ((s.data.toList.take q).all digitB = true)) (fun x6 => s.size - (intOf x6).toNat)
    case atStart => exact ⟨0, rfl, Nat.zero_le _, Lib.hid (by simp)⟩
    case round =>
      obtain ⟨q, rfl, hq, HR⟩ := hrel
      by_cases hlt : q < s.size
      case pos =>
        have hq2 : (q : Int) < s.size := by omega
        have h257 := UInt8.toNat_lt s[q]
        have HT := Lib.hid (take_byte hlt)
        by_cases hd : digitB s[q] = true
        · have hd2 : 48 ≤ s[q].toNat ∧ s[q].toNat ≤ 57 := by simpa [digitB] using hd
          have i1 : (48 : Int) ≤ s[q].toNat := by omega
          have i2 : (s[q].toNat : Int) ≤ 57 := by omega
          have HD := Lib.hid hd
          clear hd hd2
          go_wp2_with fail
          go_round
          case rel => exact ⟨q + 1, by go_num, by omega, Lib.hid (by rw [HT.out, List.all_append, HR.out]; simp [HD.out])⟩
          case measure => simp [intOf]; omega
        · have hd2 : s[q].toNat < 48 ∨ (48 ≤ s[q].toNat ∧ 57 < s[q].toNat) := by
            have : ¬ (48 ≤ s[q].toNat ∧ s[q].toNat ≤ 57) := fun h => hd (by simpa [digitB] using h)
            omega
          have HP := Lib.hid (HMS.out.1 (.inr (fun ha => hd (List.all_eq_true.1 ha s[q] (List.getElem_mem (by simpa using hlt : q < s.data.toList.length))))))
          clear hd HMS HI
          rcases hd2 with i1 | ⟨i0, i2⟩
          · have i1' : (s[q].toNat : Int) < 48 := by omega
            clear i1
            go_wp2_with fail
            exact ret_cell2 rfl rfl rfl (Blk.new _ _ _) Tryd.underlying38 val_size rfl ⟨_, by rw [HP.out.2]; rfl, fun w2 S => by rw [HP.out.1]; exact rep_leaf _ _ 3 false 0 s (by unfold i64ok; omega) (by unfold i64ok; omega) hs, Below.new _ _⟩
          · have i0' : (48 : Int) ≤ s[q].toNat := by omega
            have i2' : (57 : Int) < s[q].toNat := by omega
            clear i0 i2
            go_wp2_with fail
            exact ret_cell2 rfl rfl rfl (Blk.new _ _ _) Tryd.underlying38 val_size rfl ⟨_, by rw [HP.out.2]; rfl, fun w2 S => by rw [HP.out.1]; exact rep_leaf _ _ 3 false 0 s (by unfold i64ok; omega) (by unfold i64ok; omega) hs, Below.new _ _⟩
      case neg =>
        have hq3 : ¬ (q : Int) < s.size := by omega
        have HA := Lib.hid (show s.data.toList.all digitB = true by
          have := HR.out
          rwa [List.take_of_length_le (by rw [← size_list]; omega)] at this)
        have HX := Lib.hid (HMS.out.2 hm0 HA.out)
        clear hlt hq HMS HR
        go_wp2_with fail
        clear hq3
        go_loop [7, 8] (fun x7 x8 => ∃ (n : Int) (q : Nat), x7 = .int .i64 n ∧ x8 = .int .i64 q ∧ q ≤ s.size ∧ Hid (n = -(valFrom 0 (s.data.toList.take q) : Int) ∧ valFrom 0 (s.data.toList.take q) ≤ 9223372036854775808)) (fun _ x8 => s.size - (intOf x8).toNat)
        case atStart => exact ⟨0, 0, rfl, rfl, Nat.zero_le _, Lib.hid (by simp [valFrom_nil])⟩
        case round =>
          obtain ⟨n, q, rfl, rfl, hq, HR⟩ := hrel
          by_cases hlt : q < s.size
          case pos =>
            have hq2 : (q : Int) < s.size := by omega
            have h257 := UInt8.toNat_lt s[q]
            have hdg : digitB s[q] = true := List.all_eq_true.1 HA.out s[q] (List.getElem_mem (by simpa using hlt : q < s.data.toList.length))
            have hd2 : 48 ≤ s[q].toNat ∧ s[q].toNat ≤ 57 := by simpa [digitB] using hdg
            obtain ⟨k, hk⟩ : ∃ k : Nat, k = s[q].toNat - 48 := ⟨_, rfl⟩
            have hsub : IntKind.u8.wrap ((s[q].toNat : Int) - 48) = (k : Int) := by rw [u8_sub hd2.1, hk]
            have hk9 : k ≤ 9 := by omega
            have HS2 := Lib.hid (show valFrom 0 (s.data.toList.take (q + 1)) = valFrom 0 (s.data.toList.take q) * 10 + k by rw [val_step hlt, hk])
            have HV := Lib.hid (val_more s.data.toList (q + 1))
            obtain ⟨hn1, hn2⟩ := HR.out
            clear hdg hd2 hk
            by_cases ho : 9223372036854775808 < valFrom 0 (s.data.toList.take q) * 10 + k
            · have HP := Lib.hid (HX.out.2 (by rw [HI.out]; rw [if_neg (by have := HS2.out; have := HV.out; omega)]))
              have ho2 : n < -922337203685477580 ∨ (-922337203685477580 ≤ n ∧ (n == -922337203685477580) = true ∧ (8 : Int) < k) := by
                by_cases h1 : n < -922337203685477580
                · exact .inl h1
                · right
                  refine ⟨by omega, ?_, by omega⟩
                  rw [beq_iff_eq]; omega
              clear ho hn1 hn2 HX HI HR
              rcases ho2 with i1 | ⟨i0, i1, i2⟩
              all_goals
                go_wp2_with fail
                exact ret_cell2 rfl rfl rfl (Blk.new _ _ _) Tryd.underlying38 val_size rfl ⟨_, by rw [HP.out.2]; rfl, fun w2 S => by rw [HP.out.1]; exact rep_zero _ _, Below.new _ _⟩
            · have ho2 : -922337203685477580 ≤ n ∧ ((n == -922337203685477580) = false ∨ ((n == -922337203685477580) = true ∧ (k : Int) ≤ 8)) := by
                refine ⟨by omega, ?_⟩
                by_cases h1 : n = -922337203685477580
                · right; exact ⟨by rw [beq_iff_eq]; exact h1, by omega⟩
                · left; rw [beq_eq_false_iff_ne]; exact h1
              have hmul : IntKind.i64.wrap (n * 10) = n * 10 := wrap_fit (by omega) (by omega)
              have hsb : IntKind.i64.wrap (n * 10 - k) = n * 10 - k := wrap_fit (by omega) (by omega)
              have HN := Lib.hid (show n * 10 - (k : Int) = -(valFrom 0 (s.data.toList.take (q + 1)) : Int) ∧ valFrom 0 (s.data.toList.take (q + 1)) ≤ 9223372036854775808 by have := HS2.out; omega)
              clear ho hn1 hn2
              obtain ⟨i0, i1 | ⟨i1, i2⟩⟩ := ho2
              all_goals
                go_wp2_with fail
                go_round
                case rel => exact ⟨n * 10 - k, q + 1, by first | rfl | go_num, by go_num, by omega, HN⟩
                case measure => simp [intOf]; omega
          case neg =>
            have hq3 : ¬ (q : Int) < s.size := by omega
            have HR2 := Lib.hid (show n = -(valFrom 0 s.data.toList : Int) ∧ valFrom 0 s.data.toList ≤ 9223372036854775808 by
              have := HR.out
              rwa [List.take_of_length_le (by rw [← size_list]; omega)] at this)
            clear HR hlt hq
            by_cases hmin : n = -9223372036854775808
            · have i1 : (n == -9223372036854775808) = true := by rw [beq_iff_eq]; exact hmin
              have HP := Lib.hid (HX.out.2 (by rw [HI.out, if_neg (by have := HR2.out; omega)]))
              clear hmin
              go_wp2_with fail
              exact ret_cell2 rfl rfl rfl (Blk.new _ _ _) Tryd.underlying38 val_size rfl ⟨_, by rw [HP.out.2]; rfl, fun w2 S => by rw [HP.out.1]; exact rep_zero _ _, Below.new _ _⟩
            · have i1 : (n == -9223372036854775808) = false := by rw [beq_eq_false_iff_ne]; exact hmin
              have HP := Lib.hid (HX.out.1 (-n) (by rw [HI.out, if_pos (by have := HR2.out; omega)]; congr 1; have := HR2.out; omega))
              have hn : i64ok (-n) := by unfold i64ok; have := HR2.out; omega
              have HN := Lib.hid hn
              have hng : IntKind.i64.wrap (-n) = -n := wrap_fit (by unfold i64ok at hn; omega) (by unfold i64ok at hn; omega)
              clear hmin hn
              go_wp2_with fail
              exact ret_cell2 rfl rfl rfl (Blk.new _ _ _) Tryd.underlying38 val_size rfl ⟨_, by rw [HP.out.2]; rfl, fun w2 S => by rw [HP.out.1]; exact rep_leaf _ _ 2 false (-n) ⟨#[]⟩ (by unfold i64ok; omega) HN.out (by decide), Below.new _ _⟩

end Go.Proofs.YtjnbjehcmckdeaaDoor
