/- mizzenref04.Quote; TrimQuotes answers true for every input: the law. -/
import Derived.Test.YtpcfjlmcahakmaaDoorTrimK
namespace Go.Proofs.YtpcfjlmcahakmaaDoor
open Go.RowKit
attribute [local go_sem ↓] Go.wp_at_zero Go.wp_at_succ

theorem escL_snoc (l : List UInt8) (c : UInt8) : escL (l ++ [c]) = escL l ++ esc1 c := by simp [escL]
theorem escL_len : ∀ (l : List UInt8), (escL l).length ≤ 2 * l.length
  | [] => by simp [escL]
  | c :: l => by
    have ih := escL_len l
    have e : escL (c :: l) = esc1 c ++ escL l := by simp [escL]
    have h1 : (esc1 c).length ≤ 2 := by unfold esc1; repeat (first | (split) | simp)
    rw [e, List.length_append, List.length_cons]; omega
theorem take_byte {s : ByteArray} {k : Nat} (h : k < s.size) : s.data.toList.take (k + 1) = s.data.toList.take k ++ [s[k]] := by
  have hl : k < s.data.toList.length := by simpa using h
  rw [List.take_succ_eq_append_getElem hl]; rfl
theorem one_byte {s : ByteArray} {k : Nat} (h : k < s.size) : (s.extract k (k + 1)).data.toList = [s[k]] := by
  rw [Lib.extract_data, byte_list h]; simp
set_option maxRecDepth 100000 in
set_option maxHeartbeats 4000000 in
theorem tquote (s : ByteArray) (hs : s.size ≤ 1000000) (w : World) : Calls Tryd.prog 14 #[.string s] w fun e w' => ∃ v : ByteArray, e = .returned (.string v) ∧ v.data.toList = quoteL s.data.toList ∧ w = w' := by
  go_enter Tryd.func14, Tryd.ntmps14
  go_wp2_with fail
  go_loop [3, 4] (fun x3 x4 => ∃ (o : ByteArray) (q : Nat), x3 = .string o ∧ x4 = .int .i64 q ∧ q ≤ s.size ∧ Hid (o.data.toList = 34 :: escL (s.data.toList.take q))) (fun _ x4 => s.size - (intOf x4).toNat)
  case atStart => exact ⟨_, 0, rfl, rfl, Nat.zero_le _, Lib.hid (by simp [escL])⟩
  case round =>
    obtain ⟨o, q, rfl, rfl, hq, hr⟩ := hrel
    have HR := Lib.hid hr.out
    clear hr
    have hos : o.size ≤ 2000001 := by
      have h1 := congrArg List.length HR.out
      have h2 := escL_len (s.data.toList.take q)
      have h3 := List.length_take_le q s.data.toList
      rw [← size_list, List.length_cons] at h1
      omega
    by_cases hlt : q < s.size
    · have hq2 : (q : Int) < s.size := by omega
      have h256 := UInt8.toNat_lt s[q]
      have HN := Lib.hid (show ∀ (o2 x : ByteArray), x.data.toList = esc1 s[q] → o2 = o ++ x → o2.data.toList = 34 :: escL (s.data.toList.take (q + 1)) from fun o2 x h1 h2 => by rw [h2, app_list, HR.out, h1, take_byte hlt, escL_snoc]; rfl)
      have HB := Lib.hid (one_byte hlt)
      by_cases c10 : s[q] = 10
      · have d10 : ((s[q].toNat : Int) == 10) = true := by rw [c10]; rfl
        have HC := Lib.hid (show esc1 s[q] = [92, 110] from by rw [esc1, if_pos c10])
        clear c10
        go_wp2_with fail
        go_round
        case rel => exact ⟨_, q + 1, rfl, by go_num, by omega, Lib.hid (HN.out _ _ HC.out.symm rfl)⟩
        case measure => simp [intOf]; omega
      · have d10 : ((s[q].toNat : Int) == 10) = false := beq_eq_false_iff_ne.2 (fun h => c10 (UInt8.toNat_inj.1 (by show _ = 10; omega)))
        by_cases c9 : s[q] = 9
        · have d9 : ((s[q].toNat : Int) == 9) = true := by rw [c9]; rfl
          have HC := Lib.hid (show esc1 s[q] = [92, 116] from by rw [esc1, if_neg c10, if_pos c9])
          clear c10 c9
          go_wp2_with fail
          go_round
          case rel => exact ⟨_, q + 1, rfl, by go_num, by omega, Lib.hid (HN.out _ _ HC.out.symm rfl)⟩
          case measure => simp [intOf]; omega
        · have d9 : ((s[q].toNat : Int) == 9) = false := beq_eq_false_iff_ne.2 (fun h => c9 (UInt8.toNat_inj.1 (by show _ = 9; omega)))
          by_cases c34 : s[q] = 34
          · have d34 : ((s[q].toNat : Int) == 34) = true := by rw [c34]; rfl
            have HC := Lib.hid (show esc1 s[q] = [92, s[q]] from by rw [esc1, if_neg c10, if_neg c9, if_pos (.inl c34)])
            clear c10 c9 c34
            go_wp2_with fail
            go_round
            case rel => exact ⟨_, q + 1, rfl, by go_num, by omega, Lib.hid (HN.out _ (⟨#[92]⟩ ++ s.extract q (q + 1)) (by rw [app_list, HB.out, HC.out]; rfl) (ByteArray.append_assoc ..))⟩
            case measure => simp [intOf]; omega
          · have d34 : ((s[q].toNat : Int) == 34) = false := beq_eq_false_iff_ne.2 (fun h => c34 (UInt8.toNat_inj.1 (by show _ = 34; omega)))
            by_cases c92 : s[q] = 92
            · have d92 : ((s[q].toNat : Int) == 92) = true := by rw [c92]; rfl
              have HC := Lib.hid (show esc1 s[q] = [92, s[q]] from by rw [esc1, if_neg c10, if_neg c9, if_pos (.inr c92)])
              clear c10 c9 c34 c92
              go_wp2_with fail
              go_round
              case rel => exact ⟨_, q + 1, rfl, by go_num, by omega, Lib.hid (HN.out _ (⟨#[92]⟩ ++ s.extract q (q + 1)) (by rw [app_list, HB.out, HC.out]; rfl) (ByteArray.append_assoc ..))⟩
              case measure => simp [intOf]; omega
            · have d92 : ((s[q].toNat : Int) == 92) = false := beq_eq_false_iff_ne.2 (fun h => c92 (UInt8.toNat_inj.1 (by show _ = 92; omega)))
              have HC := Lib.hid (show esc1 s[q] = [s[q]] from by rw [esc1, if_neg c10, if_neg c9, if_neg (by rintro (h | h) <;> contradiction)])
              clear c10 c9 c34 c92
              go_wp2_with fail
              go_round
              case rel => exact ⟨_, q + 1, rfl, by go_num, by omega, Lib.hid (HN.out _ (s.extract q (q + 1)) (by rw [HB.out, HC.out]) rfl)⟩
              case measure => simp [intOf]; omega
    · have hq2 : q = s.size := by omega
      have HQ := Lib.hid (show o.data.toList = 34 :: escL s.data.toList from by rw [HR.out, hq2, size_list, List.take_length])
      clear hq2
      go_wp2_with fail
      go_ret
      exact ⟨_, rfl, by rw [app_list, HQ.out]; rfl, rfl⟩

/-! ### The law -/
def qHead : ByteArray := ⟨#[123, 123, 32, 112, 114, 105, 110, 116, 32]⟩
def qTail : ByteArray := ⟨#[32, 125, 125]⟩
theorem quotes_toks {s t q : ByteArray} (hq : q.data.toList = quoteL s.data.toList) (ht : find2 123 t.data.toList = none) : ∃ k, splitM ((qHead ++ q ++ qTail ++ t).size + 1) (qHead ++ q ++ qTail ++ t).data.toList 0 false = some (⟨true, prB ++ q.data.toList, 0⟩ :: txt t.data.toList k) := by
  have h1 : qHead.size = 9 := rfl
  have e : (qHead ++ q ++ qTail ++ t).data.toList = 123 :: 123 :: ((pr ++ (quoteL s.data.toList ++ [32])) ++ 125 :: 125 :: t.data.toList) := by
    rw [← hq]; simp [qHead, qTail, pr]
  have e2 : (qHead ++ q ++ qTail ++ t).size + 1 = ((qHead ++ q ++ qTail ++ t).size - 1) + 2 := by simp only [ByteArray.size_append]; omega
  rw [e, e2, hq]
  exact law_quotes ht
theorem quotes_size {s t q : ByteArray} (hq : q.data.toList = quoteL s.data.toList) (hs : s.size ≤ 300) (ht : t.size ≤ 300) : q.size ≤ 602 ∧ (qHead ++ q ++ qTail ++ t).size ≤ 65536 := by
  have h1 : q.size ≤ 602 := by
    have h1 := congrArg List.length hq
    have h2 := escL_len s.data.toList
    rw [← size_list] at h1 h2
    simp only [quoteL, List.length_cons, List.length_append, List.length_nil] at h1
    omega
  refine ⟨h1, ?_⟩
  have h2 : qHead.size = 9 := rfl
  have h3 : qTail.size = 3 := rfl
  simp only [ByteArray.size_append]
  omega
set_option maxRecDepth 100000 in
set_option maxHeartbeats 4000000 in
theorem quotesL (s t : ByteArray) (w : World) (hs : s.size ≤ 140737488351232) (ht : t.size ≤ 140737488351232) (hm : MaxL w) : Calls Tryd.prog 6 #[.string s, .string t] w fun e w' => e = .returned (.bool true) ∧ Below w.heap.size w w' := by
  have HM := Lib.hid hm
  clear hm
  by_cases hz : s.size ≤ 300
  case neg =>
    have hz1 : (300 : Int) < (s.size : Int) := by omega
    go_enter Tryd.func6, Tryd.ntmps6
    go_wp2_with (go_at_call 10; refine (tawake _ HM.out).mono ?_; rintro e w9 ⟨rfl, hb9⟩)
    go_ret
    exact ⟨rfl, hb9⟩
  have hz1 : (s.size : Int) ≤ 300 := by omega
  by_cases hy : t.size ≤ 300
  case neg =>
    have hy1 : (300 : Int) < (t.size : Int) := by omega
    go_enter Tryd.func6, Tryd.ntmps6
    go_wp2_with (go_at_call 10; refine (tawake _ HM.out).mono ?_; rintro e w9 ⟨rfl, hb9⟩)
    go_ret
    exact ⟨rfl, hb9⟩
  have hy1 : (t.size : Int) ≤ 300 := by omega
  obtain ⟨pb, hpb⟩ : ∃ d, d = plain t := ⟨_, rfl⟩
  have CP := Lib.hid (show Calls Tryd.prog 8 #[.string t] w (fun e w' => e = .returned (.bool pb) ∧ w = w') from hpb ▸ tplain t w (by omega) HM.out)
  have HP := Lib.hid hpb
  clear hpb
  go_enter Tryd.func6, Tryd.ntmps6
  cases pb
  · go_wp2_with (first | (go_at_call 8; refine CP.out.mono ?_; rintro e w9 ⟨rfl, rfl⟩) | (go_at_call 10; refine (tawake _ HM.out).mono ?_; rintro e w9 ⟨rfl, hb9⟩))
    go_ret
    exact ⟨rfl, hb9⟩
  have hF : find2 123 t.data.toList = none := by
    have h1 := HP.out
    unfold plain at h1
    cases h : find2 123 t.data.toList with
    | none => rfl
    | some k => rw [h] at h1; cases h1
  have HF := Lib.hid hF
  clear hF HP
  go_wp2_with (go_at_call 8; refine CP.out.mono ?_; rintro e w9 ⟨rfl, rfl⟩)
  refine (tquote s (by omega) w).mono ?_
  rintro e w1 ⟨q, rfl, hq, rfl⟩
  obtain ⟨hq1, hq2⟩ := quotes_size (t := t) hq hz hy
  obtain ⟨k, hk⟩ := quotes_toks hq HF.out
  have C1 := Lib.hid (show Calls Tryd.prog 11 #[.string (⟨#[123, 123, 32, 112, 114, 105, 110, 116, 32]⟩ ++ q ++ ⟨#[32, 125, 125]⟩ ++ t)] w (TokPost w (⟨true, prB ++ q.data.toList, 0⟩ :: txt t.data.toList k)) from tsplit_ok w hq2 HM.out hk)
  have HQ := Lib.hid hq
  clear hq hk CP hq2
  by_cases h0 : t.data.toList = []
  · have ht0 : txt t.data.toList k = [] := by rw [h0]; rfl
    rw [ht0] at C1
    have e0 : t.toList.isEmpty = true := by rw [ByteArray.toList_eq, h0]; rfl
    clear ht0
    have H0 := Lib.hid h0
    clear h0
    go_wp2_with fail
    refine C1.out.mono ?_
    rintro e w1 ⟨A, c, rfl, hr, hc1, hc2, hb1⟩
    obtain ⟨b, o, rfl, hS, hbl, hcell⟩ := rep_tok hr (by simp)
    have HB1 := Lib.hid hb1
    obtain ⟨x0, x1, x2⟩ := hcell 0 _ rfl
    clear hb1 hr hcell hS C1
    simp only [Nat.zero_mul, Nat.add_zero] at x0 x1 x2
    have e3 : (⟨(prB ++ q.data.toList).toArray⟩ : ByteArray) = ⟨#[112, 114, 105, 110, 116, 32]⟩ ++ q := by apply ByteArray.ext; apply Array.ext'; simp [prB]
    simp only [e3] at x1
    clear e3
    go_wp2_with fail
    refine (tawake _ (HM.out.keep HB1.out)).mono ?_
    rintro e w3 ⟨rfl, hb3⟩
    have HB3 := Lib.hid (Below.next HB1.out hb3)
    clear hb3
    go_wp2_with fail
    go_ret
    exact ⟨rfl, HB3.out⟩
  · have ht0 : txt t.data.toList k = [⟨false, t.data.toList, k⟩] := by rw [txt, if_neg h0]
    rw [ht0] at C1
    have e0 : t.toList.isEmpty = false := by rw [ByteArray.toList_eq]; simpa using h0
    clear ht0
    have H0 := Lib.hid h0
    clear h0
    go_wp2_with fail
    refine C1.out.mono ?_
    rintro e w1 ⟨A, c, rfl, hr, hc1, hc2, hb1⟩
    obtain ⟨b, o, rfl, hS, hbl, hcell⟩ := rep_tok hr (by simp)
    have HB1 := Lib.hid hb1
    obtain ⟨x0, x1, x2⟩ := hcell 0 _ rfl
    obtain ⟨y0, y1, y2⟩ := hcell 1 _ rfl
    clear hb1 hr hcell hS C1
    simp only [Nat.zero_mul, Nat.add_zero, Nat.one_mul, Nat.add_assoc, Nat.reduceAdd] at x0 x1 x2 y0 y1 y2
    have e3 : (⟨(prB ++ q.data.toList).toArray⟩ : ByteArray) = ⟨#[112, 114, 105, 110, 116, 32]⟩ ++ q := by apply ByteArray.ext; apply Array.ext'; simp [prB]
    simp only [e3] at x1
    clear e3
    have e4 : (⟨t.data.toList.toArray⟩ : ByteArray) = t := rfl
    simp only [e4] at y1
    clear e4
    have Y0 := Lib.hid y0; have Y1 := Lib.hid y1
    go_wp2_with fail
    refine (tawake _ (HM.out.keep HB1.out)).mono ?_
    rintro e w3 ⟨rfl, hb3⟩
    have HB3 := Lib.hid (Below.next HB1.out hb3)
    clear x0 x1 x2 y0 y1 y2
    have y0 := (hb3.cell (p := ⟨_, _, none⟩) hbl).trans Y0.out
    have y1 := (hb3.cell (p := ⟨_, _, none⟩) hbl).trans Y1.out
    have hl1 : b < w3.heap.size := Nat.lt_of_lt_of_le hbl hb3.size
    clear hb3 Y0 Y1 hbl
    go_wp2_with fail
    go_ret
    exact ⟨rfl, HB3.out⟩
end Go.Proofs.YtpcfjlmcahakmaaDoor
