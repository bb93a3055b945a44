/- TrimTrims answers true for every input: the law. -/
import Derived.Test.YtpcfjlmcahakmaaDoorTrimK
namespace Go.Proofs.YtpcfjlmcahakmaaDoor
open Go.RowKit
attribute [local go_sem ↓] Go.wp_at_zero Go.wp_at_succ

/-- The texts of tokens, one behind the other. -/
def textsOf (l : List Tok) : List UInt8 := (l.map (·.s)).flatten
theorem textsOf_txt (s : List UInt8) (k : Nat) : textsOf (txt s k) = s := by
  unfold txt
  split
  · next h => rw [h]; rfl
  · simp [textsOf]
theorem textsOf_app (l m : List Tok) : textsOf (l ++ m) = textsOf l ++ textsOf m := by simp [textsOf]
theorem txt_act (s : List UInt8) (k : Nat) : ∀ t ∈ txt s k, t.act = false := by
  unfold txt
  split <;> simp

set_option maxRecDepth 100000 in
set_option maxHeartbeats 4000000 in
theorem trimsL (s t : ByteArray) (w : World) (hs : s.size ≤ 140737488351232) (ht : t.size ≤ 140737488351232) (hm : MaxL w) : Calls Tryd.prog 4 #[.string s, .string t] w fun e w' => e = .returned (.bool true) ∧ Below w.heap.size w w' := by
  have HM := Lib.hid hm
  clear hm
  by_cases hz : s.size + t.size ≤ 1000
  case neg =>
    have hz1 : (1000 : Int) < (s.size : Int) + t.size := by omega
    go_enter Tryd.func4, Tryd.ntmps4
    go_wp2_with (go_at_call 10; refine (tawake _ HM.out).mono ?_; rintro e w9 ⟨rfl, hb9⟩)
    go_ret
    exact ⟨rfl, hb9⟩
  have hz1 : (s.size : Int) + t.size ≤ 1000 := by omega
  obtain ⟨pb, hpb⟩ : ∃ d, d = plain s := ⟨_, rfl⟩
  obtain ⟨pc, hpc⟩ : ∃ d, d = plain t := ⟨_, rfl⟩
  obtain ⟨sx, hsx⟩ : ∃ d, d = Lib.hasSuffix s.data.toList [123] := ⟨_, rfl⟩
  have CP := Lib.hid (show Calls Tryd.prog 8 #[.string s] w (fun e w' => e = .returned (.bool pb) ∧ w = w') from hpb ▸ tplain s w (by omega) HM.out)
  have CP2 := Lib.hid (show Calls Tryd.prog 8 #[.string t] w (fun e w' => e = .returned (.bool pc) ∧ w = w') from hpc ▸ tplain t w (by omega) HM.out)
  have CX := Lib.hid (show Calls Tryd.prog 9 #[.string s, .string ⟨#[123]⟩] w (fun e w' => e = .returned (.bool sx) ∧ w = w') from hsx ▸ tsuffix s ⟨#[123]⟩ w (by omega))
  have HP := Lib.hid hpb; have HP2 := Lib.hid hpc; have HX := Lib.hid hsx
  clear hpb hpc hsx
  go_enter Tryd.func4, Tryd.ntmps4
  cases pb
  · go_wp2_with (first | (go_at_call 8; refine CP.out.mono ?_; rintro e w9 ⟨rfl, rfl⟩) | (go_at_call 10; refine (tawake _ HM.out).mono ?_; rintro e w9 ⟨rfl, hb9⟩))
    go_ret
    exact ⟨rfl, hb9⟩
  cases pc
  · go_wp2_with (first | (go_at_call 8; refine CP.out.mono ?_; rintro e w9 ⟨rfl, rfl⟩) | (go_at_call 8; refine CP2.out.mono ?_; rintro e w9 ⟨rfl, rfl⟩) | (go_at_call 10; refine (tawake _ HM.out).mono ?_; rintro e w9 ⟨rfl, hb9⟩))
    go_ret
    exact ⟨rfl, hb9⟩
  cases sx
  case true =>
    go_wp2_with (first | (go_at_call 8; refine CP.out.mono ?_; rintro e w9 ⟨rfl, rfl⟩) | (go_at_call 8; refine CP2.out.mono ?_; rintro e w9 ⟨rfl, rfl⟩) | (go_at_call 9; refine CX.out.mono ?_; rintro e w9 ⟨rfl, rfl⟩) | (go_at_call 10; refine (tawake _ HM.out).mono ?_; rintro e w9 ⟨rfl, hb9⟩))
    go_ret
    exact ⟨rfl, hb9⟩
  have hF : Fine s.data.toList := fine_of HP.out.symm HX.out.symm
  have hG : find2 123 t.data.toList = none := by
    have h1 := HP2.out
    unfold plain at h1
    cases h : find2 123 t.data.toList with
    | none => rfl
    | some k => rw [h] at h1; cases h1
  obtain ⟨k, hk⟩ := law_trims (n := (s ++ ⟨#[123, 123, 45, 32, 47, 42, 32, 120, 32, 42, 47, 32, 45, 125, 125]⟩ ++ t).size - 1) hF hG
  obtain ⟨toks, hts⟩ : ∃ l, l = txt (Lib.trimRightS s.data.toList blanks) 0 ++ txt (Lib.trimLeftS t.data.toList blanks) k := ⟨_, rfl⟩
  have HT := Lib.hid (show (∀ x ∈ toks, x.act = false) ∧ textsOf toks = Lib.trimRightS s.data.toList blanks ++ Lib.trimLeftS t.data.toList blanks ∧ toks.length ≤ 2 from by
    rw [hts]
    refine ⟨fun x hx => ?_, by rw [textsOf_app, textsOf_txt, textsOf_txt], ?_⟩
    · rcases List.mem_append.1 hx with h | h
      · exact txt_act _ _ x h
      · exact txt_act _ _ x h
    · have h1 : ∀ (l : List UInt8) k, (txt l k).length ≤ 1 := fun l k => by unfold txt; split <;> simp
      have h2 := h1 (Lib.trimRightS s.data.toList blanks) 0
      have h3 := h1 (Lib.trimLeftS t.data.toList blanks) k
      rw [List.length_append]; omega)
  have C1 := Lib.hid (tsplit_ok (s := s ++ ⟨#[123, 123, 45, 32, 47, 42, 32, 120, 32, 42, 47, 32, 45, 125, 125]⟩ ++ t) (toks := toks) w
    (by simp only [ByteArray.size_append]; have h1 : (⟨#[123, 123, 45, 32, 47, 42, 32, 120, 32, 42, 47, 32, 45, 125, 125]⟩ : ByteArray).size = 15 := rfl; omega) HM.out (by
    have h1 : (⟨#[123, 123, 45, 32, 47, 42, 32, 120, 32, 42, 47, 32, 45, 125, 125]⟩ : ByteArray).size = 15 := rfl
    have e : (s ++ ⟨#[123, 123, 45, 32, 47, 42, 32, 120, 32, 42, 47, 32, 45, 125, 125]⟩ ++ t : ByteArray).data.toList = s.data.toList ++ 123 :: 123 :: (mid ++ 125 :: 125 :: t.data.toList) := by simp [mid]
    have e2 : (s ++ ⟨#[123, 123, 45, 32, 47, 42, 32, 120, 32, 42, 47, 32, 45, 125, 125]⟩ ++ t : ByteArray).size + 1 = ((s ++ ⟨#[123, 123, 45, 32, 47, 42, 32, 120, 32, 42, 47, 32, 45, 125, 125]⟩ ++ t).size - 1) + 2 := by simp only [ByteArray.size_append]; omega
    rw [e, e2, hts]; exact hk))
  clear hF hG HP HP2 HX hk hts
  go_wp2_with (first | (go_at_call 8; refine CP.out.mono ?_; rintro e w9 ⟨rfl, rfl⟩) | (go_at_call 8; refine CP2.out.mono ?_; rintro e w9 ⟨rfl, rfl⟩) | (go_at_call 9; refine CX.out.mono ?_; rintro e w9 ⟨rfl, rfl⟩))
  refine C1.out.mono ?_
  rintro e w1 ⟨A, c, rfl, hr, hc1, hc2, hb1⟩
  have HB1 := Lib.hid hb1; have HR := Lib.hid hr
  clear hb1 hr C1 CP CP2 CX
  go_wp2_with fail
  refine (strPost (ttrimR s _ (by omega))).mono ?_
  rintro e w2 ⟨x, rfl, hx, hb2⟩
  have hxz : x.size ≤ s.size := by rw [size_list, hx, size_list, Lib.trimRightS, List.length_reverse]; have := (List.dropWhile_sublist (l := s.data.toList.reverse) (blanks.contains ·)).length_le; simpa using this
  have HX := Lib.hid hx; have HB2 := Lib.hid (Below.next HB1.out hb2)
  replace HR := Lib.hid (HR.out.keep hb2)
  clear hx hb2
  go_wp2_with fail
  refine (strPost (ttrimL t _)).mono ?_
  rintro e w3 ⟨y, rfl, hy, hb3⟩
  have hyz : y.size ≤ t.size := by rw [size_list, hy, size_list]; exact (List.dropWhile_sublist _).length_le
  have HY := Lib.hid hy; have HB3 := Lib.hid (Below.next HB2.out hb3)
  replace HR := Lib.hid (HR.out.keep hb3)
  clear hy hb3
  have HXY := Lib.hid (show textsOf toks = (x ++ y).data.toList from by rw [HT.out.2.1, app_list, HX.out, HY.out])
  have htl : toks.length ≤ 2 := HT.out.2.2
  have HXZ := Lib.hid (show x.size + y.size ≤ 1000 from by omega)
  have hts0 : (0 : Int) ≤ (toks.length : Int) := by omega
  go_wp2_with fail
  go_loopw [9, 47] (fun x9 x47 wr => ∃ (g : ByteArray) (q : Nat), x9 = .string g ∧ x47 = .int .i64 q ∧ q ≤ toks.length ∧ Hid (g.data.toList = textsOf (toks.take q)) ∧ Hid (RepE eltK wr (fun b => w.heap.size ≤ b) A toks) ∧ Hid (Below w.heap.size w wr)) (fun _ x47 _ => toks.length - (intOf x47).toNat)
  case atStart => exact ⟨_, 0, rfl, rfl, Nat.zero_le _, Lib.hid rfl, HR, HB3⟩
  case round =>
    obtain ⟨g, q, rfl, rfl, hq, hg, hr, hb⟩ := hrel
    have HG := Lib.hid hg.out; have HR2 := Lib.hid hr.out; have HB4 := Lib.hid hb.out
    clear hg hr hb HR HB3
    have hgs : g.size ≤ 1000 := by
      have h1 := congrArg List.length HG.out
      have h2 : textsOf toks = textsOf (toks.take q) ++ textsOf (toks.drop q) := by rw [← textsOf_app, List.take_append_drop]
      have h3 := congrArg List.length h2
      rw [HXY.out, ← size_list, ByteArray.size_append, List.length_append] at h3
      rw [← size_list] at h1
      have := HXZ.out
      omega
    by_cases hlt : q < toks.length
    · have hq2 : (q : Int) < (toks.length : Int) := by omega
      obtain ⟨b, o, rfl, hS, hbl, hcell⟩ := rep_tok HR2.out (fun e => by rw [e] at hlt; simp at hlt)
      obtain ⟨x0, x1, x2⟩ := hcell q _ (List.getElem?_eq_getElem hlt)
      rw [HT.out.1 toks[q] (List.getElem_mem hlt)] at x0
      have htk : toks[q].s.length ≤ 1000 := by
        have h2 : textsOf toks = textsOf (toks.take q) ++ (toks[q].s ++ textsOf (toks.drop (q + 1))) := by
          conv => lhs; rw [← List.take_append_drop q toks, textsOf_app, List.drop_eq_getElem_cons hlt]
          rfl
        have h3 := congrArg List.length h2
        rw [HXY.out, ← size_list, ByteArray.size_append, List.length_append, List.length_append] at h3
        have := HXZ.out
        omega
      obtain ⟨tv, htv⟩ : ∃ v : ByteArray, v = ⟨toks[q].s.toArray⟩ := ⟨_, rfl⟩
      rw [← htv] at x1
      have htz : tv.size ≤ 1000 := by rw [htv, size_list]; exact htk
      obtain ⟨at9, hat⟩ : ∃ v : Int, v = (toks[q].at_ : Int) := ⟨_, rfl⟩
      rw [← hat] at x2
      have HTV := Lib.hid (show textsOf (toks.take (q + 1)) = textsOf (toks.take q) ++ tv.data.toList from by
        rw [List.take_succ_eq_append_getElem hlt, textsOf_app, htv]; simp [textsOf])
      clear htv hat hcell hS
      go_wp2_with fail
      go_round
      case rel => exact ⟨g ++ tv, q + 1, rfl, by go_num, by omega, Lib.hid (by rw [app_list, HG.out, HTV.out]), Lib.hid (HR2.out.keep (Below.new _ _)), Lib.hid (HB4.out.alloc HB4.out.size _)⟩
      case measure => simp [intOf]; omega
    · have hge : q = toks.length := by omega
      have hgx : g = x ++ y := by
        apply ByteArray.ext; apply Array.ext'
        rw [HG.out, hge, List.take_length, HXY.out]
      subst hgx
      clear hge
      have HB5 := HB4
      go_wp2_with fail
      refine (tawake _ (HM.out.keep HB5.out)).mono ?_
      rintro e w5 ⟨rfl, hb5⟩
      have HB6 := Lib.hid (Below.next HB5.out hb5)
      clear hb5
      go_wp2_with fail
      go_ret
      exact ⟨rfl, HB6.out⟩
end Go.Proofs.YtpcfjlmcahakmaaDoor
