/- scalar.Bare and the reference's; number. -/
import Derived.Test.YtdgeegfoocoohaaDoorStr
import Derived.Test.YtdgeegfoocoohaaDoorScalP
import Derived.Lib.Bytealg
import Derived.Test.YtdgeegfoocoohaaDoorShelf
namespace Go.Proofs.YtdgeegfoocoohaaDoor
open Go.RowKit
attribute [local go_sem ↓] Go.wp_at_zero Go.wp_at_succ

theorem okL_snoc (l : List UInt8) (c : UInt8) : okL (l ++ [c]) = (okL l && (letterB c || (!l.isEmpty && moreB c))) := by
  cases l with
  | nil => simp [okL]
  | cons d r => simp [okL, List.all_append, Bool.and_assoc]
theorem okL_take : ∀ (n : Nat) {l : List UInt8}, okL l = true → okL (l.take n) = true
  | 0, l, _ => by simp [okL]
  | n + 1, [], h => by simp [okL]
  | n + 1, c :: r, h => by
    rw [okL, Bool.and_eq_true] at h
    rw [List.take_succ_cons, okL, h.1, Bool.true_and, List.all_eq_true]
    intro x hx
    exact List.all_eq_true.1 h.2 x (List.mem_of_mem_take hx)
def marks : List UInt8 := [95, 45, 46, 47]
theorem marks_index (c : UInt8) : (Lib.indexByte marks c < 0) = ¬ (c = 95 ∨ c = 45 ∨ c = 46 ∨ c = 47) := by
  by_cases h1 : c = 95
  · subst h1; simp [marks, Lib.indexByte]
  by_cases h2 : c = 45
  · subst h2; simp [marks, Lib.indexByte]
  by_cases h3 : c = 46
  · subst h3; simp [marks, Lib.indexByte]
  by_cases h4 : c = 47
  · subst h4; simp [marks, Lib.indexByte]
  have f1 : ((95 : UInt8) == c) = false := beq_eq_false_iff_ne.2 (fun e => h1 e.symm)
  have f2 : ((45 : UInt8) == c) = false := beq_eq_false_iff_ne.2 (fun e => h2 e.symm)
  have f3 : ((46 : UInt8) == c) = false := beq_eq_false_iff_ne.2 (fun e => h3 e.symm)
  have f4 : ((47 : UInt8) == c) = false := beq_eq_false_iff_ne.2 (fun e => h4 e.symm)
  simp [marks, Lib.indexByte, f1, f2, f3, f4, h1, h2, h3, h4]
theorem more_index (c : UInt8) : moreB c = (digitB c || !decide (Lib.indexByte marks c < 0)) := by
  simp only [marks_index, moreB]
  cases digitB c <;> simp [Bool.beq_eq_decide_eq, Bool.or_assoc]

theorem tletter (c : UInt8) (w : World) : Calls Tryd.prog 45 #[.int .u8 c.toNat] w fun e w' => e = .returned (.bool (letterB c)) ∧ w = w' := by
  have h256 := UInt8.toNat_lt c
  go_enter Tryd.func45, Tryd.ntmps45
  go_wp2
  all_goals (go_ret; refine ⟨congrArg Ending.returned (show Value.bool _ = _ from congrArg Value.bool ?_), rfl⟩; rw [Bool.eq_iff_iff]; simp [letterB]; omega)
theorem tdigit (c : UInt8) (w : World) : Calls Tryd.prog 46 #[.int .u8 c.toNat] w fun e w' => e = .returned (.bool (digitB c)) ∧ w = w' := by
  have h256 := UInt8.toNat_lt c
  go_enter Tryd.func46, Tryd.ntmps46
  go_wp2
  all_goals (go_ret; refine ⟨congrArg Ending.returned (show Value.bool _ = _ from congrArg Value.bool ?_), rfl⟩; rw [Bool.eq_iff_iff]; simp [digitB]; omega)
theorem tindex (c : UInt8) (w : World) : Calls Tryd.prog 47 #[.string ⟨#[95, 45, 46, 47]⟩, .int .u8 c.toNat] w fun e w' => e = .returned (.int .i64 (Lib.indexByte marks c)) ∧ w = w' := by
  refine (Tryd.strings_IndexByte ⟨#[95, 45, 46, 47]⟩ c.toNat w).mono ?_
  rintro e w' ⟨rfl, rfl⟩
  refine ⟨?_, rfl⟩
  have e : (c.toNat : Int).toNat.toUInt8 = c := by simp
  rw [e]; rfl
/-- What a byte at a place may be. -/
def okPos (q : Nat) (c : UInt8) : Bool := letterB c || (!(q == 0) && moreB c)
theorem okL_at {s : ByteArray} {q : Nat} (h : q < s.size) (ho : okL (s.data.toList.take q) = true) : okL (s.data.toList.take (q + 1)) = okPos q s[q] := by
  rw [take_byte h, okL_snoc, ho, Bool.true_and, okPos]
  cases q with
  | zero => simp
  | succ q =>
    have : (s.data.toList.take (q + 1)).isEmpty = false := by
      rw [Bool.eq_false_iff]
      intro e
      rw [List.isEmpty_iff, List.take_eq_nil_iff] at e
      rcases e with e | e
      · omega
      · rw [size_list, e] at h; simp at h
    rw [this]; simp
theorem okL_bad {s : ByteArray} {q : Nat} (h : okL (s.data.toList.take (q + 1)) = false) : bareL s.data.toList = false := by
  have : okL s.data.toList = false := by
    cases ho : okL s.data.toList with
    | false => rfl
    | true => rw [okL_take (q + 1) ho] at h; cases h
  rw [bareL, this]; rfl
theorem bare_ends (s : ByteArray) (h : okL s.data.toList = true) : bareL s.data.toList = !(s.toList.isEmpty || s.toList == nullW || s.toList == trueW || s.toList == falseW) := by
  rw [bareL, h, Bool.true_and, ByteArray.toList_eq]
  congr 4
  cases s.data.toList <;> rfl

set_option maxRecDepth 100000 in
set_option maxHeartbeats 4000000 in
theorem tbare (s : ByteArray) (hs : s.size ≤ 140737488355328) (w : World) : Calls Tryd.prog 35 #[.string s] w fun e w' => e = .returned (.bool (bareL s.data.toList)) ∧ w = w' := by
  go_enter Tryd.func35, Tryd.ntmps35
  go_wp2_with fail
  go_loop [7] (fun x7 => ∃ (q : Nat), x7 = .int .i64 q ∧ q ≤ s.size ∧ Hid (okL (s.data.toList.take q) = true)) (fun x7 => s.size - (intOf x7).toNat)
  case atStart => exact ⟨0, rfl, Nat.zero_le _, Lib.hid (by simp [okL])⟩
  case round =>
    obtain ⟨q, rfl, hq, hr⟩ := hrel
    have HR := Lib.hid hr.out
    clear hr
    by_cases hlt : q < s.size
    · have hq2 : (q : Int) < s.size := by omega
      have h256 := UInt8.toNat_lt s[q]
      have HA := Lib.hid (okL_at hlt HR.out)
      obtain ⟨lb, hlb⟩ : ∃ d, d = letterB s[q] := ⟨_, rfl⟩
      obtain ⟨db, hdb⟩ : ∃ d, d = digitB s[q] := ⟨_, rfl⟩
      obtain ⟨ix, hix⟩ : ∃ d, d = Lib.indexByte marks s[q] := ⟨_, rfl⟩
      have CL := Lib.hid (show Calls Tryd.prog 45 #[.int .u8 s[q].toNat] w (fun e w' => e = .returned (.bool lb) ∧ w = w') from hlb ▸ tletter s[q] w)
      have CD := Lib.hid (show Calls Tryd.prog 46 #[.int .u8 s[q].toNat] w (fun e w' => e = .returned (.bool db) ∧ w = w') from hdb ▸ tdigit s[q] w)
      have CI := Lib.hid (show Calls Tryd.prog 47 #[.string ⟨#[95, 45, 46, 47]⟩, .int .u8 s[q].toNat] w (fun e w' => e = .returned (.int .i64 ix) ∧ w = w') from hix ▸ tindex s[q] w)
      have HO := Lib.hid (show okPos q s[q] = (lb || (!(q == 0) && (db || !decide (ix < 0)))) by rw [okPos, more_index, ← hlb, ← hdb, ← hix])
      clear hlb hdb hix
      cases lb
      case true =>
        go_wp2_with (go_at_call 45; refine CL.out.mono ?_; rintro e w9 ⟨rfl, rfl⟩)
        go_round
        case rel => exact ⟨q + 1, by go_num, by omega, Lib.hid (by rw [HA.out, HO.out]; rfl)⟩
        case measure => simp [intOf]; omega
      case false =>
      by_cases h0 : q = 0
      · have g0 : ((q : Int) == 0) = true := by rw [h0]; rfl
        have HB := Lib.hid (show bareL s.data.toList = false from okL_bad (q := q) (by rw [HA.out, HO.out, h0]; rfl))
        clear h0
        go_wp2_with (go_at_call 45; refine CL.out.mono ?_; rintro e w9 ⟨rfl, rfl⟩)
        go_ret
        exact ⟨by rw [HB.out]; rfl, rfl⟩
      have g0 : ((q : Int) == 0) = false := by rw [beq_eq_false_iff_ne]; omega
      have g0' : (q == 0) = false := by rw [beq_eq_false_iff_ne]; exact h0
      have HG := Lib.hid g0'
      clear h0 g0'
      cases db
      case true =>
        go_wp2_with (first | (go_at_call 45; refine CL.out.mono ?_; rintro e w9 ⟨rfl, rfl⟩) | (go_at_call 46; refine CD.out.mono ?_; rintro e w9 ⟨rfl, rfl⟩))
        go_round
        case rel => exact ⟨q + 1, by go_num, by omega, Lib.hid (by rw [HA.out, HO.out, HG.out]; rfl)⟩
        case measure => simp [intOf]; omega
      case false =>
      by_cases h1 : ix < 0
      · have HB := Lib.hid (show bareL s.data.toList = false from okL_bad (q := q) (by rw [HA.out, HO.out, HG.out]; simp [h1]))
        go_wp2_with (first | (go_at_call 45; refine CL.out.mono ?_; rintro e w9 ⟨rfl, rfl⟩) | (go_at_call 46; refine CD.out.mono ?_; rintro e w9 ⟨rfl, rfl⟩) | (go_at_call 47; refine CI.out.mono ?_; rintro e w9 ⟨rfl, rfl⟩))
        go_ret
        exact ⟨by rw [HB.out]; rfl, rfl⟩
      · have HN := Lib.hid h1
        have h2 : ¬ ix < 0 := h1
        have h3 : (0 : Int) ≤ ix := by omega
        clear h1
        go_wp2_with (first | (go_at_call 45; refine CL.out.mono ?_; rintro e w9 ⟨rfl, rfl⟩) | (go_at_call 46; refine CD.out.mono ?_; rintro e w9 ⟨rfl, rfl⟩) | (go_at_call 47; refine CI.out.mono ?_; rintro e w9 ⟨rfl, rfl⟩))
        go_round
        case rel => exact ⟨q + 1, by go_num, by omega, Lib.hid (by rw [HA.out, HO.out, HG.out]; simp [HN.out])⟩
        case measure => simp [intOf]; omega
    · have hq2 : q = s.size := by omega
      have HQ := Lib.hid (show bareL s.data.toList = _ from bare_ends s (by rw [← take_all s, ← hq2]; exact HR.out))
      have hq3 : ¬ (q : Int) < s.size := by omega
      clear hq2 HR hlt hq
      cases h0 : s.toList.isEmpty
      case true =>
        go_wp2_with fail
        go_ret
        exact ⟨by rw [HQ.out, h0]; rfl, rfl⟩
      cases h1 : s.toList == nullW
      case true =>
        have h1' : (s.toList == [110, 117, 108, 108]) = true := h1
        clear h1
        go_wp2_with fail
        go_ret
        exact ⟨by rw [HQ.out, h0, show (s.toList == nullW) = true from h1']; rfl, rfl⟩
      have h1' : (s.toList == [110, 117, 108, 108]) = false := h1
      cases h2 : s.toList == trueW
      case true =>
        have h2' : (s.toList == [116, 114, 117, 101]) = true := h2
        clear h1 h2
        go_wp2_with fail
        go_ret
        exact ⟨by rw [HQ.out, h0, show (s.toList == nullW) = false from h1', show (s.toList == trueW) = true from h2']; rfl, rfl⟩
      have h2' : (s.toList == [116, 114, 117, 101]) = false := h2
      cases h3 : s.toList == falseW
      case true =>
        have h3' : (s.toList == [102, 97, 108, 115, 101]) = true := h3
        clear h1 h2 h3
        go_wp2_with fail
        go_ret
        exact ⟨by rw [HQ.out, h0, show (s.toList == nullW) = false from h1', show (s.toList == trueW) = false from h2', show (s.toList == falseW) = true from h3']; rfl, rfl⟩
      have h3' : (s.toList == [102, 97, 108, 115, 101]) = false := h3
      clear h1 h2 h3
      go_wp2_with fail
      go_ret
      exact ⟨by rw [HQ.out, h0, show (s.toList == nullW) = false from h1', show (s.toList == trueW) = false from h2', show (s.toList == falseW) = false from h3']; rfl, rfl⟩
theorem bare_call {s : ByteArray} {b : Bool} (h : bareL s.data.toList = b) (hs : s.size ≤ 1000000) (w : World) : Calls Tryd.prog 35 #[.string s] w fun e w' => e = .returned (.bool b) ∧ w = w' := h ▸ tbare s (by omega) w
end Go.Proofs.YtdgeegfoocoohaaDoor
