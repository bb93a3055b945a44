/- TrimPlain answers true for every input: the law. -/
import Derived.Test.YtpcfjlmcahakmaaDoorTrimK
namespace Go.Proofs.YtpcfjlmcahakmaaDoor
open Go.RowKit
attribute [local go_sem ↓] Go.wp_at_zero Go.wp_at_succ

set_option maxRecDepth 100000 in
set_option maxHeartbeats 4000000 in
theorem plainL (s : ByteArray) (w : World) (hs : s.size ≤ 140737488351232) (hm : MaxL w) : Calls Tryd.prog 3 #[.string s] w fun e w' => e = .returned (.bool true) ∧ Below w.heap.size w w' := by
  have HM := Lib.hid hm
  clear hm
  by_cases hz : s.size ≤ 1000
  case neg =>
    have hz1 : (1000 : Int) < (s.size : Int) := by omega
    go_enter Tryd.func3, Tryd.ntmps3
    go_wp2_with (go_at_call 10; refine (tawake _ HM.out).mono ?_; rintro e w9 ⟨rfl, hb9⟩)
    go_ret
    exact ⟨rfl, hb9⟩
  have hz1 : (s.size : Int) ≤ 1000 := by omega
  obtain ⟨pb, hpb⟩ : ∃ d, d = plain s := ⟨_, rfl⟩
  obtain ⟨sx, hsx⟩ : ∃ d, d = Lib.hasSuffix s.data.toList [123] := ⟨_, rfl⟩
  have CP := Lib.hid (show Calls Tryd.prog 8 #[.string s] w (fun e w' => e = .returned (.bool pb) ∧ w = w') from hpb ▸ tplain s w (by omega) HM.out)
  have CX := Lib.hid (show Calls Tryd.prog 9 #[.string s, .string ⟨#[123]⟩] w (fun e w' => e = .returned (.bool sx) ∧ w = w') from hsx ▸ tsuffix s ⟨#[123]⟩ w (by omega))
  have HP := Lib.hid hpb; have HX := Lib.hid hsx
  clear hpb hsx
  go_enter Tryd.func3, Tryd.ntmps3
  cases pb
  · go_wp2_with (first | (go_at_call 8; refine CP.out.mono ?_; rintro e w9 ⟨rfl, rfl⟩) | (go_at_call 10; refine (tawake _ HM.out).mono ?_; rintro e w9 ⟨rfl, hb9⟩))
    go_ret
    exact ⟨rfl, hb9⟩
  cases sx
  case true =>
    go_wp2_with (first | (go_at_call 8; refine CP.out.mono ?_; rintro e w9 ⟨rfl, rfl⟩) | (go_at_call 9; refine CX.out.mono ?_; rintro e w9 ⟨rfl, rfl⟩) | (go_at_call 10; refine (tawake _ HM.out).mono ?_; rintro e w9 ⟨rfl, hb9⟩))
    go_ret
    exact ⟨rfl, hb9⟩
  have hF : Fine s.data.toList := fine_of HP.out.symm HX.out.symm
  have C1 := Lib.hid (tsplit_ok (s := s) w (by omega) HM.out (law_plain hF.1))
  have C2 := Lib.hid (fun w2 (hm : MaxL w2) => tsplit_ok (s := ⟨#[123, 123, 97, 125, 125]⟩ ++ s ++ ⟨#[123, 123, 32, 98, 32, 125, 125]⟩) (toks := ⟨true, [97], 0⟩ :: (txt s.data.toList 5 ++ [⟨true, [98], 5 + s.data.toList.length⟩])) w2
    (by simp only [ByteArray.size_append]; have h1 : (⟨#[123, 123, 97, 125, 125]⟩ : ByteArray).size = 5 := rfl; have h2 : (⟨#[123, 123, 32, 98, 32, 125, 125]⟩ : ByteArray).size = 7 := rfl; omega) hm (by
    have e : (⟨#[123, 123, 97, 125, 125]⟩ ++ s ++ ⟨#[123, 123, 32, 98, 32, 125, 125]⟩ : ByteArray).data.toList = wrapped s.data.toList := by simp [wrapped]
    have e2 : (⟨#[123, 123, 97, 125, 125]⟩ ++ s ++ ⟨#[123, 123, 32, 98, 32, 125, 125]⟩ : ByteArray).size + 1 = (s.size + 10) + 3 := by simp only [ByteArray.size_append]; have h1 : (⟨#[123, 123, 97, 125, 125]⟩ : ByteArray).size = 5 := rfl; have h2 : (⟨#[123, 123, 32, 98, 32, 125, 125]⟩ : ByteArray).size = 7 := rfl; omega
    rw [e, e2]; exact law_wrapped hF))
  clear hF HP HX
  by_cases h0 : s.data.toList = []
  · have ht0 : txt s.data.toList 0 = [] := by rw [h0]; rfl
    have ht5 : txt s.data.toList 5 = [] := by rw [h0]; rfl
    rw [ht0] at C1
    rw [ht5] at C2
    have e0 : s.toList.isEmpty = true := by rw [ByteArray.toList_eq, h0]; rfl
    clear ht0 ht5
    have H0 := Lib.hid h0
    clear h0
    go_wp2_with (first | (go_at_call 8; refine CP.out.mono ?_; rintro e w9 ⟨rfl, rfl⟩) | (go_at_call 9; refine CX.out.mono ?_; rintro e w9 ⟨rfl, rfl⟩))
    refine C1.out.mono ?_
    rintro e w1 ⟨A, c, rfl, -, -, -, hb1⟩
    have HB1 := Lib.hid hb1
    clear hb1
    go_wp2_with fail
    refine (C2.out _ (HM.out.keep HB1.out)).mono ?_
    rintro e w2 ⟨A2, c2, rfl, -, -, -, hb2⟩
    have HB2 := Lib.hid (Below.next HB1.out hb2)
    clear hb2
    go_wp2_with fail
    refine (tawake _ (HM.out.keep HB2.out)).mono ?_
    rintro e w3 ⟨rfl, hb3⟩
    have HB3 := Lib.hid (Below.next HB2.out hb3)
    clear hb3
    go_wp2_with fail
    go_ret
    exact ⟨rfl, HB3.out⟩
  · have ht0 : txt s.data.toList 0 = [⟨false, s.data.toList, 0⟩] := by rw [txt, if_neg h0]
    have ht5 : txt s.data.toList 5 = [⟨false, s.data.toList, 5⟩] := by rw [txt, if_neg h0]
    rw [ht0] at C1
    rw [ht5] at C2
    have e0 : s.toList.isEmpty = false := by rw [ByteArray.toList_eq]; simpa using h0
    clear ht0 ht5
    have H0 := Lib.hid h0
    clear h0
    go_wp2_with (first | (go_at_call 8; refine CP.out.mono ?_; rintro e w9 ⟨rfl, rfl⟩) | (go_at_call 9; refine CX.out.mono ?_; rintro e w9 ⟨rfl, rfl⟩))
    refine C1.out.mono ?_
    rintro e w1 ⟨A, c, rfl, hr, hc1, hc2, hb1⟩
    obtain ⟨b, o, rfl, hS, hbl, hcell⟩ := rep_tok hr (by simp)
    have HB1 := Lib.hid hb1
    obtain ⟨x0, x1, x2⟩ := hcell 0 _ rfl
    have X0 := Lib.hid x0; have X1 := Lib.hid x1; have X2 := Lib.hid x2
    clear hb1 hr hcell hS x0 x1 x2
    go_wp2_with fail
    refine (C2.out _ (HM.out.keep HB1.out)).mono ?_
    rintro e w2 ⟨A2, c2, rfl, hr, hd1, hd2, hb2⟩
    obtain ⟨b2, o2, rfl, hS, hbl2, hcell⟩ := rep_tok hr (by simp)
    have HB2 := Lib.hid (Below.next HB1.out hb2)
    obtain ⟨y0, y1, y2⟩ := hcell 1 _ rfl
    obtain ⟨z0, z1, z2⟩ := hcell 2 _ rfl
    have X0' := Lib.hid ((hb2.cell (p := ⟨_, _, none⟩) hbl).trans X0.out); have X1' := Lib.hid ((hb2.cell (p := ⟨_, _, none⟩) hbl).trans X1.out); have X2' := Lib.hid ((hb2.cell (p := ⟨_, _, none⟩) hbl).trans X2.out)
    have hbl' : b < w2.heap.size := Nat.lt_of_lt_of_le hbl hb2.size
    clear hb2 hr hcell hS X0 X1 X2 C1 C2 CP CX hbl
    have Y0 := Lib.hid y0; have Y1 := Lib.hid y1; have Y2 := Lib.hid y2; have Z1 := Lib.hid z1
    clear y0 y1 y2 z0 z1 z2
    go_wp2_with fail
    refine (tawake _ (HM.out.keep HB2.out)).mono ?_
    rintro e w3 ⟨rfl, hb3⟩
    have HB3 := Lib.hid (Below.next HB2.out hb3)
    have x0 := (hb3.cell (p := ⟨_, _, none⟩) hbl').trans X0'.out
    have x1 := (hb3.cell (p := ⟨_, _, none⟩) hbl').trans X1'.out
    have x2 := (hb3.cell (p := ⟨_, _, none⟩) hbl').trans X2'.out
    have y0 := (hb3.cell (p := ⟨_, _, none⟩) hbl2).trans Y0.out
    have y1 := (hb3.cell (p := ⟨_, _, none⟩) hbl2).trans Y1.out
    have y2 := (hb3.cell (p := ⟨_, _, none⟩) hbl2).trans Y2.out
    have z1 := (hb3.cell (p := ⟨_, _, none⟩) hbl2).trans Z1.out
    have hl1 : b < w3.heap.size := Nat.lt_of_lt_of_le hbl' hb3.size
    have hl2 : b2 < w3.heap.size := Nat.lt_of_lt_of_le hbl2 hb3.size
    clear hb3 X0' X1' X2' Y0 Y1 Y2 Z1 hbl' hbl2
    simp only [Nat.zero_mul, Nat.add_zero, Nat.one_mul, Nat.reduceMul, Nat.add_assoc, Nat.reduceAdd] at x0 x1 x2 y0 y1 y2 z1
    have e3 : (⟨s.data.toList.toArray⟩ : ByteArray) = s := rfl
    simp only [e3] at x1 y1
    clear e3
    go_wp2_with fail
    go_ret
    exact ⟨rfl, HB3.out⟩
end Go.Proofs.YtpcfjlmcahakmaaDoor
