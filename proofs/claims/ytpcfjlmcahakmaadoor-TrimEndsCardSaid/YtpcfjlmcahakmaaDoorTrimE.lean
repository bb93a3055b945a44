/- TrimEnds answers true for every input: the law. -/
import Derived.Test.YtpcfjlmcahakmaaDoorTrimK
namespace Go.Proofs.YtpcfjlmcahakmaaDoor
open Go.RowKit
attribute [local go_sem ↓] Go.wp_at_zero Go.wp_at_succ

set_option maxRecDepth 100000 in
set_option maxHeartbeats 4000000 in
theorem endsL (s t : ByteArray) (w : World) (hs : s.size ≤ 140737488351232) (ht : t.size ≤ 140737488351232) (hm : MaxL w) : Calls Tryd.prog 7 #[.string s, .string t] w fun e w' => e = .returned (.bool true) ∧ Below w.heap.size w w' := by
  have HM := Lib.hid hm
  clear hm
  by_cases hz : s.size + t.size ≤ 600
  case neg =>
    have hz1 : (600 : Int) < (s.size : Int) + t.size := by omega
    go_enter Tryd.func7, Tryd.ntmps7
    go_wp2_with (go_at_call 10; refine (tawake _ HM.out).mono ?_; rintro e w9 ⟨rfl, hb9⟩)
    go_ret
    exact ⟨rfl, hb9⟩
  have hz1 : (s.size : Int) + t.size ≤ 600 := by omega
  obtain ⟨pb, hpb⟩ : ∃ d, d = plain s := ⟨_, rfl⟩
  obtain ⟨sx, hsx⟩ : ∃ d, d = Lib.hasSuffix s.data.toList [123] := ⟨_, rfl⟩
  obtain ⟨ct, hct⟩ : ∃ d, d = (find2 125 t.data.toList).isSome := ⟨_, rfl⟩
  have CP := Lib.hid (show Calls Tryd.prog 8 #[.string s] w (fun e w' => e = .returned (.bool pb) ∧ w = w') from hpb ▸ tplain s w (by omega) HM.out)
  have CX := Lib.hid (show Calls Tryd.prog 9 #[.string s, .string ⟨#[123]⟩] w (fun e w' => e = .returned (.bool sx) ∧ w = w') from hsx ▸ tsuffix s ⟨#[123]⟩ w (by omega))
  have CC := Lib.hid (show Calls Tryd.prog 15 #[.string t, .string ⟨#[125, 125]⟩] w (fun e w' => e = .returned (.bool ct) ∧ w = w') from hct ▸ tcontains 125 t w (by omega) HM.out)
  have HP := Lib.hid hpb; have HX := Lib.hid hsx; have HC := Lib.hid hct
  clear hpb hsx hct
  go_enter Tryd.func7, Tryd.ntmps7
  cases pb
  · go_wp2_with (first | (go_at_call 8; refine CP.out.mono ?_; rintro e w9 ⟨rfl, rfl⟩) | (go_at_call 10; refine (tawake _ HM.out).mono ?_; rintro e w9 ⟨rfl, hb9⟩))
    go_ret
    exact ⟨rfl, hb9⟩
  cases sx
  case true =>
    go_wp2_with (first | (go_at_call 8; refine CP.out.mono ?_; rintro e w9 ⟨rfl, rfl⟩) | (go_at_call 9; refine CX.out.mono ?_; rintro e w9 ⟨rfl, rfl⟩) | (go_at_call 10; refine (tawake _ HM.out).mono ?_; rintro e w9 ⟨rfl, hb9⟩))
    go_ret
    exact ⟨rfl, hb9⟩
  cases ct
  case true =>
    go_wp2_with (first | (go_at_call 8; refine CP.out.mono ?_; rintro e w9 ⟨rfl, rfl⟩) | (go_at_call 9; refine CX.out.mono ?_; rintro e w9 ⟨rfl, rfl⟩) | (go_at_call 15; refine CC.out.mono ?_; rintro e w9 ⟨rfl, rfl⟩) | (go_at_call 10; refine (tawake _ HM.out).mono ?_; rintro e w9 ⟨rfl, hb9⟩))
    go_ret
    exact ⟨rfl, hb9⟩
  have hF : Fine s.data.toList := fine_of HP.out.symm HX.out.symm
  have C1 := Lib.hid (tsplit_none (s := s ++ ⟨#[123, 123]⟩ ++ t) w (by simp [ByteArray.size_append]; have : (⟨#[123, 123]⟩ : ByteArray).size = 2 := rfl; omega) HM.out (by
    have e : (s ++ ⟨#[123, 123]⟩ ++ t).data.toList = s.data.toList ++ 123 :: 123 :: t.data.toList := by simp
    rw [e]; exact law_open hF (by have := HC.out; cases h : find2 125 t.data.toList with | none => rfl | some k => rw [h] at this; cases this)))
  have C2 := Lib.hid (fun w2 (hm : MaxL w2) => tsplit_ok (s := s ++ ⟨#[125, 125]⟩) (toks := [⟨false, s.data.toList ++ [125, 125], 0⟩]) w2 (by simp [ByteArray.size_append]; have : (⟨#[125, 125]⟩ : ByteArray).size = 2 := rfl; omega) hm (by
    have e : (s ++ ⟨#[125, 125]⟩).data.toList = s.data.toList ++ [125, 125] := by simp
    rw [e]; exact law_ends hF.1))
  clear hF HP HX HC
  go_wp2_with (first | (go_at_call 8; refine CP.out.mono ?_; rintro e w9 ⟨rfl, rfl⟩) | (go_at_call 9; refine CX.out.mono ?_; rintro e w9 ⟨rfl, rfl⟩) | (go_at_call 15; refine CC.out.mono ?_; rintro e w9 ⟨rfl, rfl⟩))
  refine C1.out.mono ?_
  rintro e w1 ⟨rfl, hb1⟩
  have HB1 := Lib.hid hb1
  clear hb1
  go_wp2_with fail
  refine (C2.out _ (HM.out.keep HB1.out)).mono ?_
  rintro e w2 ⟨A, c, rfl, hr, hc1, hc2, hb2⟩
  obtain ⟨b, o, rfl, hS, hbl, hcell⟩ := rep_tok hr (by simp)
  have HB2 := Lib.hid (Below.next HB1.out hb2)
  go_wp2_with fail
  refine (tawake _ (HM.out.keep HB2.out)).mono ?_
  rintro e w3 ⟨rfl, hb3⟩
  obtain ⟨x0, x1, x2⟩ := hcell 0 _ rfl
  rw [← hb3.cell (p := ⟨_, _, none⟩) hbl] at x0 x1 x2
  have HB3 := Lib.hid (Below.next HB2.out hb3)
  have hbl3 : b < w3.heap.size := Nat.lt_of_lt_of_le hbl hb3.size
  clear hb2 hb3 hr hcell hS C1 C2 hbl
  simp only [Nat.zero_mul, Nat.add_zero] at x0 x1 x2
  have e3 : (⟨(s.data.toList ++ [125, 125]).toArray⟩ : ByteArray) = s ++ ⟨#[125, 125]⟩ := by
    apply ByteArray.ext; apply Array.ext'; simp
  simp only [e3] at x1
  clear e3
  go_wp2_with fail
  go_ret
  exact ⟨rfl, HB3.out⟩
end Go.Proofs.YtpcfjlmcahakmaaDoor
