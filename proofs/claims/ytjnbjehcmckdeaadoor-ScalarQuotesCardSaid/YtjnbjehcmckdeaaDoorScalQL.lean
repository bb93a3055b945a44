/- ScalarQuotes answers true for every input: the law. -/
import Derived.Test.YtjnbjehcmckdeaaDoorScalQC
namespace Go.Proofs.YtjnbjehcmckdeaaDoor
open Go.RowKit
attribute [local go_sem ↓] Go.wp_at_zero Go.wp_at_succ

set_option maxRecDepth 100000 in
set_option maxHeartbeats 16000000 in
theorem quotesL (s more : ByteArray) (w : World) (hv : ScalV w) : Calls Tryd.prog 10 #[.string s, .string more] w fun e w' => e = .returned (.bool true) ∧ Below w.heap.size w w' := by
  have HV := Lib.hid hv
  have HB := Lib.hid (Below.refl w.heap.size w)
  clear hv
  by_cases hz : s.size ≤ 500
  case neg =>
    have hz1 : (500 : Int) < (s.size : Int) := by omega
    go_enter Tryd.func10, Tryd.ntmps10
    go_wp2_with (go_at_call 29; refine (awake4 _ HV.out).mono ?_; rintro e w9 ⟨rfl, hb9⟩)
    go_ret
    exact ⟨rfl, hb9⟩
  have hz1 : (s.size : Int) ≤ 500 := by omega
  by_cases hm : more.size ≤ 500
  case neg =>
    have hm1 : (500 : Int) < (more.size : Int) := by omega
    go_enter Tryd.func10, Tryd.ntmps10
    go_wp2_with (go_at_call 29; refine (awake4 _ HV.out).mono ?_; rintro e w9 ⟨rfl, hb9⟩)
    go_ret
    exact ⟨rfl, hb9⟩
  have hm1 : (more.size : Int) ≤ 500 := by omega
  have hsl : s.data.toList.length ≤ 500 := by rw [← size_list]; exact hz
  have hml : more.data.toList.length ≤ 500 := by rw [← size_list]; exact hm
  obtain ⟨qs, hqs⟩ : ∃ r : ByteArray, quoteL s.data.toList = r.data.toList := ⟨⟨(quoteL s.data.toList).toArray⟩, rfl⟩
  obtain ⟨ss, hss⟩ : ∃ r : ByteArray, singleL s.data.toList = r.data.toList := ⟨⟨(singleL s.data.toList).toArray⟩, rfl⟩
  have hqz : qs.size ≤ 2000 := by
    rw [size_list, ← hqs, quoteL]; have := escL_len s.data.toList; simp; omega
  have hsz : ss.size ≤ 2000 := by
    rw [size_list, ← hss, singleL]; have := sescL_len s.data.toList; simp; omega
  have hqm : (qs ++ more).size ≤ 3000 := by rw [ByteArray.size_append]; omega
  have hsm : (ss ++ more).size ≤ 3000 := by rw [ByteArray.size_append]; omega
  have CQ := Lib.hid (tquote_call hqs (by omega))
  have CR := Lib.hid (rquote_call hqs (by omega))
  have CS := Lib.hid (rsingle_call hss (by omega))
  have CU := Lib.hid (unq_some (s := qs ++ more) (a := s) (b := more) (by rw [app_list, ← hqs, unq_quote]) (by omega))
  have CV := Lib.hid (fun h : more.data.toList.head? ≠ some 39 => unq_some (s := ss ++ more) (a := s) (b := more) (by rw [app_list, ← hss, unq_single h]) (by omega))
  have eqs : (qs.toList == qs.toList) = true := by simp
  have ess : (s.toList == s.toList) = true := by simp
  have emm : (more.toList == more.toList) = true := by simp
  have e00 : (⟨#[]⟩ : ByteArray).toList.isEmpty = true := by rw [ByteArray.toList_eq]; rfl
  have KQ := Lib.hid hqz
  have KS := Lib.hid hsz
  have hcase : (more.size = 0) ∨ (0 < more.size ∧ ∃ h : 0 < more.size, more[0] = 39) ∨ (0 < more.size ∧ ∃ h : 0 < more.size, more[0] ≠ 39) := by
    by_cases h : 0 < more.size
    · by_cases h2 : more[0] = 39
      · exact .inr (.inl ⟨h, h, h2⟩)
      · exact .inr (.inr ⟨h, h, h2⟩)
    · exact .inl (by omega)
  have hend : Hid (unqL more.data.toList = none) ∨ (∃ c d q1 : ByteArray, Hid (unqL more.data.toList = some (c.data.toList, d.data.toList)) ∧ c.size ≤ 500 ∧ d.size ≤ 500 ∧ Hid (quoteL c.data.toList = q1.data.toList) ∧ q1.size ≤ 2000 ∧ ((q1 ++ d).toList == more.toList) = true) ∨
      (∃ c d q1 q2 : ByteArray, Hid (unqL more.data.toList = some (c.data.toList, d.data.toList)) ∧ c.size ≤ 500 ∧ d.size ≤ 500 ∧ Hid (quoteL c.data.toList = q1.data.toList) ∧ q1.size ≤ 2000 ∧ ((q1 ++ d).toList == more.toList) = false ∧ Hid (singleL c.data.toList = q2.data.toList) ∧ q2.size ≤ 2000 ∧ ((q2 ++ d).toList == more.toList) = true) := by
    cases hu : unqL more.data.toList with
    | none => exact .inl (Lib.hid rfl)
    | some p =>
      right
      obtain ⟨c, d⟩ := p
      have hlen := unq_len hu
      have hc : (⟨c.toArray⟩ : ByteArray).data.toList = c := rfl
      have hd : (⟨d.toArray⟩ : ByteArray).data.toList = d := rfl
      have c1 : (⟨c.toArray⟩ : ByteArray).size ≤ 500 := by rw [size_list, hc]; omega
      have d1 : (⟨d.toArray⟩ : ByteArray).size ≤ 500 := by rw [size_list, hd]; omega
      have q1 : (⟨(quoteL c).toArray⟩ : ByteArray).size ≤ 2000 := by rw [size_list]; show (quoteL c).length ≤ _; rw [quoteL]; have := escL_len c; simp; omega
      have q2 : (⟨(singleL c).toArray⟩ : ByteArray).size ≤ 2000 := by rw [size_list]; show (singleL c).length ≤ _; rw [singleL]; have := sescL_len c; simp; omega
      by_cases hq : quoteL c ++ d = more.data.toList
      · refine .inl ⟨⟨c.toArray⟩, ⟨d.toArray⟩, ⟨(quoteL c).toArray⟩, Lib.hid rfl, c1, d1, Lib.hid rfl, q1, ?_⟩
        rw [keq_iff]; exact decide_eq_true (list_ext (by rw [app_list]; exact hq))
      · have h2 : singleL c ++ d = more.data.toList := by
          rcases unq_back hu with h | h
          · exact absurd h.symm hq
          · exact h.symm
        refine .inr ⟨⟨c.toArray⟩, ⟨d.toArray⟩, ⟨(quoteL c).toArray⟩, ⟨(singleL c).toArray⟩, Lib.hid rfl, c1, d1, Lib.hid rfl, q1, ?_, Lib.hid rfl, q2, ?_⟩
        · rw [keq_iff]; refine decide_eq_false (fun h => hq ?_)
          rw [← h, app_list]
        · rw [keq_iff]; exact decide_eq_true (list_ext (by rw [app_list]; exact h2))
  clear hqs hss hsl hml
  rcases hcase with hm0 | ⟨hp, hlt, h39⟩ | ⟨hp, hlt, h39⟩
  case' inl =>
    have g1 : ((more.size : Int) == 0) = true := by rw [hm0]; rfl
    have CV := Lib.hid (CV.out (by
      have : more.data.toList = [] := List.length_eq_zero_iff.1 (by rw [← size_list]; exact hm0)
      rw [this]; simp))
    clear hm0
  case' inr.inl =>
    have g1 : ((more.size : Int) == 0) = false := by rw [beq_eq_false_iff_ne]; omega
    have g2 : ((more[0].toNat : Int) == 39) = true := by rw [h39]; rfl
    have hp1 : (0 : Int) < more.size := by omega
    clear h39
  case' inr.inr =>
    have g1 : ((more.size : Int) == 0) = false := by rw [beq_eq_false_iff_ne]; omega
    have g2 : ((more[0].toNat : Int) == 39) = false := beq_eq_false_iff_ne.2 (fun h => h39 (UInt8.toNat_inj.1 (by show _ = 39; omega)))
    have hp1 : (0 : Int) < more.size := by omega
    have CV := Lib.hid (CV.out (by
      have := byte_list hlt
      rw [List.drop_zero] at this
      rw [this]
      simp only [List.head?_cons, ne_eq, Option.some.injEq]
      exact h39))
    clear h39
  all_goals
    rcases hend with hu | ⟨c, d, q1, hu, c1, d1, hq1, z1, t1⟩ | ⟨c, d, q1, q2, hu, c1, d1, hq1, z1, t1, hq2, z2, t2⟩
  all_goals
    first
      | (have CW := Lib.hid (unq_none hu.out (by omega)))
      | (have CW := Lib.hid (unq_some hu.out (by omega)); have CA := Lib.hid (rquote_call hq1.out (by omega)); have hq1d : (q1 ++ d).size ≤ 3000 := by (rw [ByteArray.size_append]; omega))
    try (have CB := Lib.hid (rsingle_call hq2.out (by omega)); have hq2d : (q2 ++ d).size ≤ 3000 := by (rw [ByteArray.size_append]; omega))
    clear hu
    try clear hq1
    try clear hq2
    go_enter Tryd.func10, Tryd.ntmps10
    go_wp2_with (first
      | (go_at_call 49; refine (CQ.out _).mono ?_; rintro e wx ⟨rfl, hb⟩; replace HB := Lib.hid (Below.next HB.out hb); clear hb)
      | (go_at_call 50; (first | (with_reducible refine (CU.out _).mono ?_) | (with_reducible refine (CV.out _).mono ?_) | (with_reducible refine (CW.out _).mono ?_)); rintro e wx ⟨rfl, hb⟩; replace HB := Lib.hid (Below.next HB.out hb); clear hb)
      | (go_at_call 51; (first | (with_reducible refine (CR.out _).mono ?_) | (with_reducible refine (CA.out _).mono ?_)); rintro e wx ⟨rfl, hb⟩; replace HB := Lib.hid (Below.next HB.out hb); clear hb)
      | (go_at_call 52; (first | (with_reducible refine (CS.out _).mono ?_) | (with_reducible refine (CB.out _).mono ?_)); rintro e wx ⟨rfl, hb⟩; replace HB := Lib.hid (Below.next HB.out hb); clear hb)
      | (go_at_call 29; refine (awake4 _ (HV.out.keep HB.out)).mono ?_; rintro e wx ⟨rfl, hb⟩; replace HB := Lib.hid (Below.next HB.out hb); clear hb))
    go_ret
    exact ⟨rfl, HB.out⟩
end Go.Proofs.YtjnbjehcmckdeaaDoor
