/- PathWords answers true for every input: the law. -/
import Derived.Test.YtjnbjehcmckdeaaDoorPWB
import Derived.Test.YtjnbjehcmckdeaaDoorTexts
import Derived.Test.YtjnbjehcmckdeaaDoorAwake2
namespace Go.Proofs.YtjnbjehcmckdeaaDoor
open Go.RowKit
attribute [local go_sem ↓] Go.wp_at_zero Go.wp_at_succ

theorem MaxP.keep {w w' : World} (h : MaxP w) (hb : Below w.heap.size w w') : MaxP w' := by
  obtain ⟨m, hm⟩ := h
  exact ⟨m, (hb.cell (block_lt_of_cell (a := ⟨1, 0, none⟩) hm)).trans hm⟩
theorem parse_ok {s : ByteArray} {l : List ByteArray} (h : parseSt s = (l, 0)) : printP l = s := by
  unfold parseSt at h
  split at h
  · injection h with h1 h2; cases h2
  · split at h
    · next h2 => injection h with h3 h4; subst h3; exact print_parse s h2
    · injection h with h1 h2; cases h2
theorem print_size {l : List ByteArray} (hl : l.length ≤ 20) : (printP l).size ≤ 100000 := by
  unfold printP
  split
  · next h =>
    unfold joinB
    have h1 := join_len [46] 256 (l.map (·.data.toList)) (fun x hx => by
      obtain ⟨y, hy, rfl⟩ := List.mem_map.1 hx
      have h2 := stepsOk_mem h y hy
      unfold stepL at h2
      rw [Bool.and_eq_true, decide_eq_true_eq] at h2
      exact h2.2)
    rw [List.length_map] at h1
    rw [size_list]
    have h3 : l.length * (256 + [(46 : UInt8)].length) ≤ 20 * 257 := Nat.mul_le_mul hl (by simp)
    exact Nat.le_trans h1 (by omega)
  · exact Nat.zero_le _
theorem print_none {l : List ByteArray} (h : (decide (0 < l.length) && stepsOk l) = false) : printP l = ⟨#[]⟩ := by
  unfold printP
  cases l with
  | nil => rw [if_pos (by rfl)]; rfl
  | cons x r => rw [if_neg (by simpa using h)]
theorem stepsOk_snoc {l : List ByteArray} {q : Nat} (hq : q < l.length) : stepsOk (l.take (q + 1)) = (stepsOk (l.take q) && stepL l[q].data.toList) := by
  unfold stepsOk
  rw [List.take_succ_eq_append_getElem hq, List.all_append]
  simp

set_option maxRecDepth 100000 in
set_option maxHeartbeats 8000000 in
theorem pwordsL (s : ByteArray) (l m : List ByteArray) (a b : Option Addr) (c d : Nat) (w : World) (hs : s.size ≤ 140737488351232) (hl : RepS w (fun _ => True) a l) (hm : RepS w (fun _ => True) b m)
    (hlc : l.length ≤ c) (hc : c ≤ maxLen) (hl3 : l.length * 16 ≤ 140737488355328) (hm3 : m.length * 16 ≤ 140737488355328) (hx : MaxP w) :
    Calls Tryd.prog 9 #[.string s, .slice a l.length c, .slice b m.length d] w fun e w' => e = .returned (.bool true) ∧ Below w.heap.size w w' := by
  have HL := Lib.hid hl
  have HM := Lib.hid hm
  have HX := Lib.hid hx
  clear hl hm hx
  go_enter Tryd.func9, Tryd.ntmps9
  by_cases h1 : s.size ≤ 1000
  case neg =>
    have g1 : (1000 : Int) < (s.size : Int) := by omega
    go_wp2_with (go_at_call 41; refine (awake2 _).mono ?_; rintro e w9 ⟨rfl, hb9⟩)
    go_ret
    exact ⟨rfl, hb9⟩
  have g1 : ¬ (1000 : Int) < (s.size : Int) := by omega
  by_cases h2 : l.length ≤ 20
  case neg =>
    have g2 : (20 : Int) < (l.length : Int) := by omega
    go_wp2_with (go_at_call 41; refine (awake2 _).mono ?_; rintro e w9 ⟨rfl, hb9⟩)
    go_ret
    exact ⟨rfl, hb9⟩
  have g2 : ¬ (20 : Int) < (l.length : Int) := by omega
  by_cases h3 : m.length ≤ 20
  case neg =>
    have g3 : (20 : Int) < (m.length : Int) := by omega
    go_wp2_with (go_at_call 41; refine (awake2 _).mono ?_; rintro e w9 ⟨rfl, hb9⟩)
    go_ret
    exact ⟨rfl, hb9⟩
  have g3 : ¬ (20 : Int) < (m.length : Int) := by omega
  obtain ⟨pl, pe, hpp⟩ : ∃ pl pe, parseSt s = (pl, pe) := ⟨_, _, rfl⟩
  have hpl : pl.length ≤ 1000000 := by
    have h4 := (splitL_len 46 s.data.toList).2
    rw [← size_list] at h4
    have h5 : (piecesB s).length ≤ 1001 := by rw [piecesB, List.length_map]; omega
    have h6 : pl.length ≤ (piecesB s).length := by
      have e : pl = (parseSt s).1 := by rw [hpp]
      rw [e]; unfold parseSt
      split
      · simp
      · split
        · exact Nat.le_refl _
        · simp
    omega
  have hplz : ∀ j (hj : j < pl.length), pl[j].size ≤ 140737488351232 := fun j hj => by
    have e : pl = (parseSt s).1 := by rw [hpp]
    have hmem : pl[j] ∈ (parseSt s).1 := by rw [← e]; exact List.getElem_mem hj
    unfold parseSt at hmem
    split at hmem
    · cases hmem
    · split at hmem
      · obtain ⟨i, hi, e2⟩ := List.getElem_of_mem hmem
        have h7 := pieces_size i hi
        have e3 : (piecesB s)[i]'hi = pl[j] := e2
        rw [← e3]; omega
      · cases hmem
  have CP := Lib.hid (tpparse s (by omega))
  have CR := Lib.hid (rparse s (by omega))
  rw [hpp] at CP CR
  have HPP := Lib.hid hpp
  clear hpp
  go_wp2_with fail
  refine (CP.out _ HX.out).mono ?_
  rintro e w1 ⟨a1, c1, rfl, hr1, hc1, hb1⟩
  go_wp2_with fail
  refine (CR.out _).mono ?_
  rintro e w2 ⟨a2, c2, rfl, hr2, hc2, hb2⟩
  have HR1 := Lib.hid ((hr1.weak (S' := fun _ => True) (fun _ _ => trivial)).keep hb2)
  have HR2 := Lib.hid (hr2.weak (S' := fun _ => True) (fun _ _ => trivial))
  have HW := Lib.hid (Below.next hb1 hb2)
  clear hr1 hr2 hb1 hb2 CP CR
  simp only at hc1 hc2 HR1 HR2
  have ge : (pe != pe) = false := by simp
  have hlz : ∀ j (hj : j < l.length), l[j].size ≤ 140737488351232 := fun j hj => by
    obtain ⟨_, _, _, _, _, _, hz⟩ := HL.out j hj
    exact hz
  have CT := Lib.hid (fun w3 (h1 : RepS w3 (fun _ => True) a1 pl) (h2 : RepS w3 (fun _ => True) a2 pl) => ttexts_eq pl a1 a2 c1 c2 w3 h1 h2 hpl)
  by_cases h0 : pe = 0
  case' pos =>
    subst h0
    have CQ := Lib.hid (fun w3 (h1 : RepS w3 (fun _ => True) a1 pl) => show Calls Tryd.prog 45 #[.slice a1 pl.length c1] w3 (fun e w' => e = .returned (.string s) ∧ Below w3.heap.size w3 w') from parse_ok HPP.out ▸ tpprint pl a1 c1 w3 h1 hplz hpl hc1)
    have gs : (s.toList == s.toList) = true := by simp
    clear HPP hplz
    go_wp2_with fail
    refine (CT.out _ HR1.out HR2.out).mono ?_
    rintro e w3 ⟨rfl, hb3⟩
    go_wp2_with fail
    refine (CQ.out _ (HR1.out.keep hb3)).mono ?_
    rintro e wz ⟨rfl, hb4⟩
    have HWZ := Lib.hid (Below.next (Below.next HW.out hb3) hb4)
    clear hb3 hb4 CQ CT HW HR1 HR2
    go_wp2_with fail
  case' neg =>
    have g0 : (pe == 0) = false := beq_eq_false_iff_ne.2 h0
    clear HPP hplz h0
    go_wp2_with fail
    refine (CT.out _ HR1.out HR2.out).mono ?_
    rintro e wz ⟨rfl, hb3⟩
    have HWZ := Lib.hid (Below.next HW.out hb3)
    clear hb3 CT HW HR1 HR2
    go_wp2_with fail
  all_goals
    have HLZ := Lib.hid (HL.out.keep HWZ.out)
    have HMZ := Lib.hid (HM.out.keep HWZ.out)
    clear HL HM
    go_loop [11, 65] (fun wb x => ∃ (q : Nat) (bo : Bool), q ≤ l.length ∧ wb = .bool bo ∧ x = .int .i64 q ∧ Hid (bo = (decide (0 < l.length) && stepsOk (l.take q)))) (fun _ x => l.length - (intOf x).toNat)
    case atStart => exact ⟨0, _, Nat.zero_le _, rfl, rfl, by simp [stepsOk, Hid]⟩
    case round =>
      obtain ⟨q, bo, hq, rfl, rfl, HBO⟩ := hrel
      by_cases hlt : q < l.length
      case pos =>
        obtain ⟨b5, o5, rfl, -, hbl, hcl, hz2⟩ := HLZ.out q hlt
        have hj1 : (0 : Int) ≤ (q : Int) := by omega
        have hj2 : (q : Int) < (l.length : Int) := by omega
        cases bo
        · have HN := Lib.hid (show false = (decide (0 < l.length) && stepsOk (l.take (q + 1))) from by
            have h5 := HBO.out
            rw [stepsOk_snoc hlt, ← Bool.and_assoc, ← h5]; rfl)
          go_wp2_with fail
          go_round
          case rel => exact ⟨q + 1, false, by omega, rfl, by go_num, HN⟩
          case measure => simp [intOf]; omega
        · obtain ⟨bw, hbw⟩ : ∃ bw, stepL l[q].data.toList = bw := ⟨_, rfl⟩
          have HN := Lib.hid (show bw = (decide (0 < l.length) && stepsOk (l.take (q + 1))) from by
            have h5 := HBO.out
            rw [stepsOk_snoc hlt, ← Bool.and_assoc, ← h5, hbw]; rfl)
          have CW := Lib.hid (fun w2 => show Calls Tryd.prog 46 #[.string l[q]] w2 (fun e w' => e = .returned (.bool bw) ∧ w2 = w') from hbw ▸ rword2 l[q] hz2 w2)
          clear hbw
          go_wp2_with (go_at_call 46; refine (CW.out _).mono ?_; rintro e w9 ⟨rfl, rfl⟩)
          go_round
          case rel => exact ⟨q + 1, bw, by omega, rfl, by go_num, HN⟩
          case measure => simp [intOf]; omega
      obtain rfl : q = l.length := by omega
      have HBO2 := Lib.hid (show bo = (decide (0 < l.length) && stepsOk l) from by have h5 := HBO.out; rw [List.take_length] at h5; exact h5)
      have CPP := Lib.hid (tpprint l a c _ HLZ.out hlz (by omega) hlc)
      obtain ⟨bb, hbb⟩ : ∃ bb, begins l m = bb := ⟨_, rfl⟩
      have CB1 := Lib.hid (fun w3 (h1 : RepS w3 (fun _ => True) a l) (h2 : RepS w3 (fun _ => True) b m) => show Calls Tryd.prog 47 #[.slice a l.length c, .slice b m.length d] w3 (BegPost bb w3) from hbb ▸ tbegins l m a b c d w3 h1 h2 hlc hc (by omega))
      have CB2 := Lib.hid (fun w3 (h1 : RepS w3 (fun _ => True) a l) (h2 : RepS w3 (fun _ => True) b m) => show Calls Tryd.prog 48 #[.slice a l.length c, .slice b m.length d] w3 (fun e w' => e = .returned (.bool bb) ∧ Below w3.heap.size w3 w') from hbb ▸ rbegins l m a b c d w3 h1 h2 (by omega))
      have gbb : (bb == bb) = true := by simp
      clear hbb HBO hq hlt
      cases bo
      · rw [print_none HBO2.out.symm] at CPP
        go_wp2_with fail
        refine CPP.out.mono ?_
        rintro e w5 ⟨rfl, hb5⟩
        go_wp2_with fail
        refine (awake2 _).mono ?_
        rintro e w6 ⟨rfl, hb6⟩
        have HZ6 := Lib.hid (Below.next hb5 hb6)
        clear hb5 hb6 CPP
        go_wp2_with fail
        refine (CB1.out _ (HLZ.out.keep HZ6.out) (HMZ.out.keep HZ6.out)).mono ?_
        rintro e w7 ⟨rfl, n7, rfl⟩
        go_wp2_with fail
        refine (CB2.out _ (HLZ.out.keep (Below.drewN HZ6.out n7)) (HMZ.out.keep (Below.drewN HZ6.out n7))).mono ?_
        rintro e w8 ⟨rfl, hb8⟩
        go_wp2_with fail
        go_ret
        exact ⟨rfl, Below.next HWZ.out (Below.next (Below.drewN HZ6.out n7) hb8)⟩
      · have hok : stepsOk l = true := by
          have h5 := HBO2.out
          rw [eq_comm, Bool.and_eq_true] at h5
          exact h5.2
        have hne : l ≠ [] := fun e => by
          have h5 := HBO2.out
          rw [e] at h5
          cases h5
        have HX5 := Lib.hid (HX.out.keep HWZ.out)
        have hps := print_size h2
        have hpr := parse_print hne hok
        clear hok hne HBO2
        generalize printP l = p at *
        have CP2 := Lib.hid (fun w3 h => tpparse p hps w3 h)
        go_wp2_with fail
        refine CPP.out.mono ?_
        rintro e w5 ⟨rfl, hb5⟩
        clear CPP
        by_cases h16 : 16 ≤ l.length
        case' pos =>
          have gl : (16 : Int) ≤ (l.length : Int) := by omega
          rw [if_pos h16] at hpr
        case' neg =>
          have gl : ¬ (16 : Int) ≤ (l.length : Int) := by omega
          rw [if_neg h16] at hpr
        all_goals
          rw [hpr] at CP2
          clear hpr hps h16
          go_wp2_with fail
          refine (CP2.out _ (HX5.out.keep hb5)).mono ?_
          rintro e w6 ⟨a6, c6, rfl, hr6, hc6, hb6⟩
          simp only at hr6 hc6
          go_wp2_with fail
          refine (awake2 _).mono ?_
          rintro e w7 ⟨rfl, hb7⟩
          have HR6 := Lib.hid (RepS.keep (hr6.weak (S' := fun _ => True) (fun _ _ => trivial)) hb7)
          have HZ6 := Lib.hid (Below.next (Below.next hb5 hb6) hb7)
          clear hb5 hb6 hb7 hr6 CP2
          go_wp2_with fail
          refine (CB1.out _ (HLZ.out.keep HZ6.out) (HMZ.out.keep HZ6.out)).mono ?_
          rintro e w8 ⟨rfl, n8, rfl⟩
          go_wp2_with fail
          refine (CB2.out _ (HLZ.out.keep (Below.drewN HZ6.out n8)) (HMZ.out.keep (Below.drewN HZ6.out n8))).mono ?_
          rintro e w9 ⟨rfl, hb9⟩
          have HZ9 := Lib.hid (Below.next (Below.drewN HZ6.out n8) hb9)
          have HD := Lib.hid (Below.next (Below.drewN (Below.refl w7.heap.size w7) n8) hb9)
          clear hb9
        · go_wp2_with fail
          refine (ttexts_eq l a6 a c6 c _ (HR6.out.keep HD.out) (HLZ.out.keep HZ9.out) (by omega)).mono ?_
          rintro e w10 ⟨rfl, hb10⟩
          go_wp2_with fail
          go_ret
          exact ⟨rfl, Below.next HWZ.out (Below.next HZ9.out hb10)⟩
        · go_wp2_with fail
          go_ret
          exact ⟨rfl, Below.next HWZ.out HZ9.out⟩
end Go.Proofs.YtjnbjehcmckdeaaDoor
