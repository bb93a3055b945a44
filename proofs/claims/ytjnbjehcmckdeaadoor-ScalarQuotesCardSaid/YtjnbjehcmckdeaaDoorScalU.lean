/- scalar.double, single, Unquote. -/
import Derived.Test.YtjnbjehcmckdeaaDoorScalD
import Derived.Deep.RegionWith
namespace Go.Proofs.YtjnbjehcmckdeaaDoor
open Go.RowKit
attribute [local go_sem ↓] Go.wp_at_zero Go.wp_at_succ

theorem dbl_34 (r : List UInt8) : dblL (34 :: r) = some ([], r) := by rw [dblL]
theorem dbl_end : dblL [92] = none := by rw [dblL]
theorem dbl_n (r : List UInt8) : dblL (92 :: 110 :: r) = (dblL r).map (fun p => (10 :: p.1, p.2)) := by rw [dblL, if_pos rfl]
theorem dbl_t (r : List UInt8) : dblL (92 :: 116 :: r) = (dblL r).map (fun p => (9 :: p.1, p.2)) := by rw [dblL, if_neg (by decide), if_pos rfl]
theorem dbl_q {c : UInt8} (h : c = 34 ∨ c = 92) (r : List UInt8) : dblL (92 :: c :: r) = (dblL r).map (fun p => (c :: p.1, p.2)) := by
  rw [dblL, if_neg (by rintro rfl; simp at h), if_neg (by rintro rfl; simp at h), if_pos h]
theorem dbl_x {c : UInt8} (h1 : c ≠ 110) (h2 : c ≠ 116) (h3 : ¬ (c = 34 ∨ c = 92)) (r : List UInt8) : dblL (92 :: c :: r) = none := by
  rw [dblL, if_neg h1, if_neg h2, if_neg h3]
theorem dbl_bad {c : UInt8} (h : c = 10 ∨ c = 9) (r : List UInt8) : dblL (c :: r) = none := by
  rcases h with rfl | rfl <;> rw [dblL]
theorem dbl_else {c : UInt8} (h1 : c ≠ 34) (h2 : c ≠ 92) (h3 : ¬ (c = 10 ∨ c = 9)) (r : List UInt8) : dblL (c :: r) = (dblL r).map (fun p => (c :: p.1, p.2)) := by
  rw [not_or] at h3
  rw [dblL]
  all_goals simp_all
/-- What was read, and what is to be read: all of it. -/
def grow2 (l : List UInt8) (o : Option (List UInt8 × List UInt8)) : Option (List UInt8 × List UInt8) := o.map (fun p => (l ++ p.1, p.2))
theorem grow2_step (l : List UInt8) (c : UInt8) (o : Option (List UInt8 × List UInt8)) : grow2 l (o.map (fun p => (c :: p.1, p.2))) = grow2 (l ++ [c]) o := by cases o <;> simp [grow2]
def UnqIs (o : Option (List UInt8 × List UInt8)) (v1 v2 : ByteArray) (ec : Int) : Prop := (∃ c d, o = some (c, d) ∧ v1.data.toList = c ∧ v2.data.toList = d ∧ ec = 0) ∨ (o = none ∧ v1 = ⟨#[]⟩ ∧ v2 = ⟨#[]⟩ ∧ ec = 11)
def UnqPost (w : World) (o : Option (List UInt8 × List UInt8)) (e : Ending) (w' : World) : Prop := ∃ v1 v2 ec, e = .returned (.tuple #[.string v1, .string v2, .int .i64 ec]) ∧ UnqIs o v1 v2 ec ∧ Below w.heap.size w w'
theorem u8_ne {a : UInt8} {n : Nat} (hn : n < 256) (h : a ≠ UInt8.ofNat n) : ((a.toNat : Int) == (n : Int)) = false := by rw [u8_eq hn, beq_eq_false_iff_ne]; exact h

set_option maxRecDepth 100000 in
set_option maxHeartbeats 8000000 in
theorem tdouble (s : ByteArray) (h1 : 1 ≤ s.size) (hs : s.size ≤ 10000000) (w : World) : Calls Tryd.prog 91 #[.string s] w (UnqPost w (dblL (s.data.toList.drop 1))) := by
  have H0 := Lib.hid (Bld.new w)
  have B0 := Lib.hid (Below.new w (.cells #[.pointer none, .slice none 0 0] 115))
  generalize hO : dblL (s.data.toList.drop 1) = o
  have HO := Lib.hid hO
  clear hO
  go_enter Tryd.func91, Tryd.ntmps91
  go_wp2_with fail
  go_loopw [6] (fun x6 wr => ∃ (q : Nat) (l : List UInt8), x6 = .int .i64 q ∧ 1 ≤ q ∧ q ≤ s.size ∧ Hid (l.length ≤ q) ∧ Hid (grow2 l (dblL (s.data.toList.drop q)) = o) ∧ Hid (Bld w.heap.size l wr) ∧ Hid (Below w.heap.size w wr)) (fun x6 _ => s.size - (intOf x6).toNat)
  case atStart => exact ⟨1, [], rfl, Nat.le_refl _, h1, Lib.hid (by simp), Lib.hid (by rw [HO.out]; cases o <;> simp [grow2]), H0, B0⟩
  case round =>
    obtain ⟨q, l, rfl, hq1, hq, hll, HG, HR, HW⟩ := hrel
    have hwb := Lib.hid HW.out.size
    by_cases hlt : q < s.size
    case neg =>
      have hq2 : ¬ (q : Int) < s.size := by omega
      have HE := Lib.hid (show o = none by rw [← HG.out, drop_end (by omega)]; simp [dblL, grow2])
      clear hlt
      go_wp2_with fail
      refine bodyPost_ret (v := .tuple #[.string ⟨#[]⟩, .string ⟨#[]⟩, .int .i64 11]) (by simp [results, Tryd.results91, go_sem]) rfl ?_
      exact ⟨_, _, _, rfl, .inr ⟨HE.out, rfl, rfl, rfl⟩, HW.out⟩
    have hq2 : (q : Int) < s.size := by omega
    have h256 := UInt8.toNat_lt s[q]
    have HD := Lib.hid (byte_list hlt)
    by_cases c34 : s[q] = 34
    · have d34 : ((s[q].toNat : Int) == 34) = true := by rw [c34]; rfl
      have HE := Lib.hid (show o = some (l, s.data.toList.drop (q + 1)) by rw [← HG.out, HD.out, c34, dbl_34]; simp [grow2])
      have CS := Lib.hid (bstr_drew HR.out hwb.out)
      clear c34
      have hq3 : (q : Int) + 1 ≤ s.size := by omega
      have hwr : IntKind.i64.wrap ((q : Int) + 1) = (q : Int) + 1 := wrap_fit (by omega) (by omega)
      go_wp2_with fail
      go_region_with (go_at_call 90; refine CS.out.mono ?_; rintro e w3 ⟨rfl, hb3⟩)
      all_goals
        go_wp2_with fail
        refine bodyPost_ret (v := .tuple #[.string ⟨l.toArray⟩, .string (s.extract (q + 1) s.size), .int .i64 0]) (by simp [results, Tryd.results91, go_sem, Act.put]) rfl ?_
        exact ⟨_, _, _, rfl, .inl ⟨_, _, HE.out, rfl, tail_list, rfl⟩, HW.out.trans hb3⟩
    have d34 : ((s[q].toNat : Int) == 34) = false := u8_ne (n := 34) (by decide) c34
    by_cases c92 : s[q] = 92
    · have d92 : ((s[q].toNat : Int) == 92) = true := by rw [c92]; rfl
      have hwr : IntKind.i64.wrap ((q : Int) + 1) = (q : Int) + 1 := wrap_fit (by omega) (by omega)
      by_cases hlt2 : q + 1 < s.size
      case neg =>
        have hq3 : ((q : Int) + 1 == (s.size : Int)) = true := by rw [beq_iff_eq]; omega
        have HE := Lib.hid (show o = none by rw [← HG.out, HD.out, c92, drop_end (by omega), dbl_end]; rfl)
        clear c92 hlt2 c34
        go_wp2_with fail
        refine bodyPost_ret (v := .tuple #[.string ⟨#[]⟩, .string ⟨#[]⟩, .int .i64 11]) (by simp [results, Tryd.results91, go_sem]) rfl ?_
        exact ⟨_, _, _, rfl, .inr ⟨HE.out, rfl, rfl, rfl⟩, HW.out⟩
      have hq3 : ((q : Int) + 1 == (s.size : Int)) = false := by rw [beq_eq_false_iff_ne]; omega
      have hq4 : (q : Int) + 1 < s.size := by omega
      have h257 := UInt8.toNat_lt s[q + 1]
      have HD2 := Lib.hid (byte_list hlt2)
      have HE := Lib.hid (show grow2 l (dblL (92 :: s[q + 1] :: s.data.toList.drop (q + 2))) = o by rw [← HG.out, HD.out, c92, HD2.out])
      clear c92 c34 HD HD2 HG
      by_cases c110 : s[q + 1] = 110
      · have d110 : ((s[q + 1].toNat : Int) == 110) = true := by rw [c110]; rfl
        have HN := Lib.hid (show grow2 (l ++ [10]) (dblL (s.data.toList.drop (q + 2))) = o by rw [← HE.out, c110, dbl_n, grow2_step])
        clear c110 HE
        go_wp2_with fail
        refine (wbyte (c := 10) HR.out (by have := hll.out; omega) hwb.out rfl).mono ?_
        rintro e w3 ⟨rfl, hB3, hb3⟩
        go_wp2_with fail
        go_round
        case rel => exact ⟨q + 2, l ++ [10], by go_num, by omega, by omega, Lib.hid (by have := hll.out; rw [List.length_append]; simp only [List.length_cons, List.length_nil]; omega), HN, Lib.hid hB3, Lib.hid (HW.out.trans hb3)⟩
        case measure => simp [intOf]; omega
      have d110 : ((s[q + 1].toNat : Int) == 110) = false := u8_ne (n := 110) (by decide) c110
      by_cases c116 : s[q + 1] = 116
      · have d116 : ((s[q + 1].toNat : Int) == 116) = true := by rw [c116]; rfl
        have HN := Lib.hid (show grow2 (l ++ [9]) (dblL (s.data.toList.drop (q + 2))) = o by rw [← HE.out, c116, dbl_t, grow2_step])
        clear c116 c110 HE
        go_wp2_with fail
        refine (wbyte (c := 9) HR.out (by have := hll.out; omega) hwb.out rfl).mono ?_
        rintro e w3 ⟨rfl, hB3, hb3⟩
        go_wp2_with fail
        go_round
        case rel => exact ⟨q + 2, l ++ [9], by go_num, by omega, by omega, Lib.hid (by have := hll.out; rw [List.length_append]; simp only [List.length_cons, List.length_nil]; omega), HN, Lib.hid hB3, Lib.hid (HW.out.trans hb3)⟩
        case measure => simp [intOf]; omega
      have d116 : ((s[q + 1].toNat : Int) == 116) = false := u8_ne (n := 116) (by decide) c116
      by_cases cq : s[q + 1] = 34 ∨ s[q + 1] = 92
      · have HN := Lib.hid (show grow2 (l ++ [s[q + 1]]) (dblL (s.data.toList.drop (q + 2))) = o by rw [← HE.out, dbl_q cq, grow2_step])
        have hor : ((s[q + 1].toNat : Int) == 34) = true ∨ (((s[q + 1].toNat : Int) == 34) = false ∧ ((s[q + 1].toNat : Int) == 92) = true) := by
          rcases cq with cq | cq
          · left; rw [cq]; rfl
          · right; rw [cq]; exact ⟨rfl, rfl⟩
        clear cq c116 c110 HE
        rcases hor with f34 | ⟨f34, f92⟩
        all_goals
          go_wp2_with fail
          refine (wbyte (c := s[q + 1]) HR.out (by have := hll.out; omega) hwb.out rfl).mono ?_
          rintro e w3 ⟨rfl, hB3, hb3⟩
          go_wp2_with fail
          go_round
          case rel => exact ⟨q + 2, l ++ [s[q + 1]], by go_num, by omega, by omega, Lib.hid (by have := hll.out; rw [List.length_append]; simp only [List.length_cons, List.length_nil]; omega), HN, Lib.hid hB3, Lib.hid (HW.out.trans hb3)⟩
          case measure => simp [intOf]; omega
      · have HN := Lib.hid (show o = none by rw [← HE.out, dbl_x c110 c116 cq]; rfl)
        have f34 : ((s[q + 1].toNat : Int) == 34) = false := u8_ne (n := 34) (by decide) (fun h => cq (.inl h))
        have f92 : ((s[q + 1].toNat : Int) == 92) = false := u8_ne (n := 92) (by decide) (fun h => cq (.inr h))
        clear cq c116 c110 HE
        go_wp2_with fail
        refine bodyPost_ret (v := .tuple #[.string ⟨#[]⟩, .string ⟨#[]⟩, .int .i64 11]) (by simp [results, Tryd.results91, go_sem]) rfl ?_
        exact ⟨_, _, _, rfl, .inr ⟨HN.out, rfl, rfl, rfl⟩, HW.out⟩
    have d92 : ((s[q].toNat : Int) == 92) = false := u8_ne (n := 92) (by decide) c92
    by_cases cb : s[q] = 10 ∨ s[q] = 9
    · have HN := Lib.hid (show o = none by rw [← HG.out, HD.out, dbl_bad cb]; rfl)
      have hor : ((s[q].toNat : Int) == 10) = true ∨ (((s[q].toNat : Int) == 10) = false ∧ ((s[q].toNat : Int) == 9) = true) := by
        rcases cb with cq | cq
        · left; rw [cq]; rfl
        · right; rw [cq]; exact ⟨rfl, rfl⟩
      clear cb c34 c92
      rcases hor with f10 | ⟨f10, f9⟩
      all_goals
        go_wp2_with fail
        refine bodyPost_ret (v := .tuple #[.string ⟨#[]⟩, .string ⟨#[]⟩, .int .i64 11]) (by simp [results, Tryd.results91, go_sem]) rfl ?_
        exact ⟨_, _, _, rfl, .inr ⟨HN.out, rfl, rfl, rfl⟩, HW.out⟩
    · have HN := Lib.hid (show grow2 (l ++ [s[q]]) (dblL (s.data.toList.drop (q + 1))) = o by rw [← HG.out, HD.out, dbl_else c34 c92 cb, grow2_step])
      have f10 : ((s[q].toNat : Int) == 10) = false := u8_ne (n := 10) (by decide) (fun h => cb (.inl h))
      have f9 : ((s[q].toNat : Int) == 9) = false := u8_ne (n := 9) (by decide) (fun h => cb (.inr h))
      clear cb c34 c92
      go_wp2_with fail
      refine (wbyte (c := s[q]) HR.out (by have := hll.out; omega) hwb.out rfl).mono ?_
      rintro e w3 ⟨rfl, hB3, hb3⟩
      go_wp2_with fail
      go_round
      case rel => exact ⟨q + 1, l ++ [s[q]], by go_num, by omega, by omega, Lib.hid (by have := hll.out; rw [List.length_append]; simp only [List.length_cons, List.length_nil]; omega), HN, Lib.hid hB3, Lib.hid (HW.out.trans hb3)⟩
      case measure => simp [intOf]; omega

theorem sgl_2 (r : List UInt8) : sglL (39 :: 39 :: r) = (sglL r).map (fun p => (39 :: p.1, p.2)) := by rw [sglL]
theorem sgl_1 {r : List UInt8} (h : r.head? ≠ some 39) : sglL (39 :: r) = some ([], r) := by
  cases r with
  | nil => rw [sglL]; simp
  | cons c r =>
    have : c ≠ 39 := fun e => h (by rw [e]; rfl)
    rw [sglL]; simp; exact this
theorem sgl_else {c : UInt8} (h : c ≠ 39) (r : List UInt8) : sglL (c :: r) = (sglL r).map (fun p => (c :: p.1, p.2)) := by
  rw [sglL]
  all_goals simp_all

set_option maxRecDepth 100000 in
set_option maxHeartbeats 8000000 in
theorem tsingle (s : ByteArray) (h1 : 1 ≤ s.size) (hs : s.size ≤ 10000000) (w : World) : Calls Tryd.prog 92 #[.string s] w (UnqPost w (sglL (s.data.toList.drop 1))) := by
  have H0 := Lib.hid (Bld.new w)
  have B0 := Lib.hid (Below.new w (.cells #[.pointer none, .slice none 0 0] 115))
  generalize hO : sglL (s.data.toList.drop 1) = o
  have HO := Lib.hid hO
  clear hO
  go_enter Tryd.func92, Tryd.ntmps92
  go_wp2_with fail
  go_loopw [6] (fun x6 wr => ∃ (q : Nat) (l : List UInt8), x6 = .int .i64 q ∧ 1 ≤ q ∧ q ≤ s.size ∧ Hid (l.length ≤ q) ∧ Hid (grow2 l (sglL (s.data.toList.drop q)) = o) ∧ Hid (Bld w.heap.size l wr) ∧ Hid (Below w.heap.size w wr)) (fun x6 _ => s.size - (intOf x6).toNat)
  case atStart => exact ⟨1, [], rfl, Nat.le_refl _, h1, Lib.hid (by simp), Lib.hid (by rw [HO.out]; cases o <;> simp [grow2]), H0, B0⟩
  case round =>
    obtain ⟨q, l, rfl, hq1, hq, hll, HG, HR, HW⟩ := hrel
    have hwb := Lib.hid HW.out.size
    by_cases hlt : q < s.size
    case neg =>
      have hq2 : ¬ (q : Int) < s.size := by omega
      have HE := Lib.hid (show o = none by rw [← HG.out, drop_end (by omega)]; simp [sglL, grow2])
      clear hlt
      go_wp2_with fail
      refine bodyPost_ret (v := .tuple #[.string ⟨#[]⟩, .string ⟨#[]⟩, .int .i64 11]) (by simp [results, Tryd.results92, go_sem]) rfl ?_
      exact ⟨_, _, _, rfl, .inr ⟨HE.out, rfl, rfl, rfl⟩, HW.out⟩
    have hq2 : (q : Int) < s.size := by omega
    have h256 := UInt8.toNat_lt s[q]
    have HD := Lib.hid (byte_list hlt)
    by_cases c39 : s[q] = 39
    case neg =>
      have d39 : ((s[q].toNat : Int) == 39) = false := u8_ne (n := 39) (by decide) c39
      have d39' : ((s[q].toNat : Int) != 39) = true := by rw [bne, d39]; rfl
      have HN := Lib.hid (show grow2 (l ++ [s[q]]) (sglL (s.data.toList.drop (q + 1))) = o by rw [← HG.out, HD.out, sgl_else c39, grow2_step])
      clear c39
      go_wp2_with fail
      refine (wbyte (c := s[q]) HR.out (by have := hll.out; omega) hwb.out rfl).mono ?_
      rintro e w3 ⟨rfl, hB3, hb3⟩
      go_wp2_with fail
      go_round
      case rel => exact ⟨q + 1, l ++ [s[q]], by go_num, by omega, by omega, Lib.hid (by have := hll.out; rw [List.length_append]; simp only [List.length_cons, List.length_nil]; omega), HN, Lib.hid hB3, Lib.hid (HW.out.trans hb3)⟩
      case measure => simp [intOf]; omega
    have d39 : ((s[q].toNat : Int) == 39) = true := by rw [c39]; rfl
    have d39' : ((s[q].toNat : Int) != 39) = false := by rw [bne, d39]; rfl
    have hwr : IntKind.i64.wrap ((q : Int) + 1) = (q : Int) + 1 := wrap_fit (by omega) (by omega)
    have CS := Lib.hid (bstr_drew HR.out hwb.out)
    have hq3 : (q : Int) + 1 ≤ s.size := by omega
    have HG2 := Lib.hid (show grow2 l (sglL (39 :: s.data.toList.drop (q + 1))) = o by rw [← HG.out, HD.out, c39])
    clear c39 HD HG
    by_cases hlt2 : q + 1 < s.size
    case neg =>
      have hq4 : ((q : Int) + 1 == (s.size : Int)) = true := by rw [beq_iff_eq]; omega
      have HE := Lib.hid (show o = some (l, s.data.toList.drop (q + 1)) by rw [← HG2.out, sgl_1 (by rw [drop_end (by omega)]; simp)]; simp [grow2])
      clear hlt2
      go_wp2_with fail
      go_region_with (go_at_call 90; refine CS.out.mono ?_; rintro e w3 ⟨rfl, hb3⟩)
      all_goals
        go_wp2_with fail
        refine bodyPost_ret (v := .tuple #[.string ⟨l.toArray⟩, .string (s.extract (q + 1) s.size), .int .i64 0]) (by simp [results, Tryd.results92, go_sem, Act.put]) rfl ?_
        exact ⟨_, _, _, rfl, .inl ⟨_, _, HE.out, rfl, tail_list, rfl⟩, HW.out.trans hb3⟩
    have hq4 : ((q : Int) + 1 == (s.size : Int)) = false := by rw [beq_eq_false_iff_ne]; omega
    have hq5 : (q : Int) + 1 < s.size := by omega
    have h257 := UInt8.toNat_lt s[q + 1]
    have HD2 := Lib.hid (byte_list hlt2)
    by_cases e39 : s[q + 1] = 39
    · have f39 : ((s[q + 1].toNat : Int) == 39) = true := by rw [e39]; rfl
      have f39' : ((s[q + 1].toNat : Int) != 39) = false := by rw [bne, f39]; rfl
      have HN := Lib.hid (show grow2 (l ++ [39]) (sglL (s.data.toList.drop (q + 2))) = o by rw [← HG2.out, HD2.out, e39, sgl_2, grow2_step])
      clear e39
      go_wp2_with fail
      refine (wbyte (c := 39) HR.out (by have := hll.out; omega) hwb.out rfl).mono ?_
      rintro e w3 ⟨rfl, hB3, hb3⟩
      go_wp2_with fail
      go_round
      case rel => exact ⟨q + 2, l ++ [39], by go_num, by omega, by omega, Lib.hid (by have := hll.out; rw [List.length_append]; simp only [List.length_cons, List.length_nil]; omega), HN, Lib.hid hB3, Lib.hid (HW.out.trans hb3)⟩
      case measure => simp [intOf]; omega
    · have f39 : ((s[q + 1].toNat : Int) == 39) = false := u8_ne (n := 39) (by decide) e39
      have f39' : ((s[q + 1].toNat : Int) != 39) = true := by rw [bne, f39]; rfl
      have HE := Lib.hid (show o = some (l, s.data.toList.drop (q + 1)) by rw [← HG2.out, sgl_1 (by rw [HD2.out]; simpa using e39)]; simp [grow2])
      clear e39
      go_wp2_with fail
      go_region_with (go_at_call 90; refine CS.out.mono ?_; rintro e w3 ⟨rfl, hb3⟩)
      all_goals
        go_wp2_with fail
        refine bodyPost_ret (v := .tuple #[.string ⟨l.toArray⟩, .string (s.extract (q + 1) s.size), .int .i64 0]) (by simp [results, Tryd.results92, go_sem, Act.put]) rfl ?_
        exact ⟨_, _, _, rfl, .inl ⟨_, _, HE.out, rfl, tail_list, rfl⟩, HW.out.trans hb3⟩

theorem unq_34 {s : ByteArray} (h1 : 1 ≤ s.size) (h : s[0] = 34) : unqL s.data.toList = dblL (s.data.toList.drop 1) := by
  have := byte_list (s := s) (k := 0) (by omega)
  rw [List.drop_zero, h] at this
  rw [this, unqL]; rfl
theorem unq_39 {s : ByteArray} (h1 : 1 ≤ s.size) (h : s[0] = 39) : unqL s.data.toList = sglL (s.data.toList.drop 1) := by
  have := byte_list (s := s) (k := 0) (by omega)
  rw [List.drop_zero, h] at this
  rw [this, unqL]; rfl
theorem unq_other {s : ByteArray} (h1 : 1 ≤ s.size) (h : s[0] ≠ 34) (h' : s[0] ≠ 39) : unqL s.data.toList = none := by
  have := byte_list (s := s) (k := 0) (by omega)
  rw [List.drop_zero] at this
  rw [this]
  unfold unqL
  split
  · next e => injection e with e _; exact absurd e h
  · next e => injection e with e _; exact absurd e h'
  · rfl
set_option maxRecDepth 100000 in
set_option maxHeartbeats 4000000 in
theorem tunquote (s : ByteArray) (hs : s.size ≤ 10000000) (w : World) : Calls Tryd.prog 50 #[.string s] w (UnqPost w (unqL s.data.toList)) := by
  have hnil : Hid (s.size = 0 → unqL s.data.toList = none) := fun h => by
    have : s.data.toList = [] := List.length_eq_zero_iff.1 (by rw [← size_list]; exact h)
    rw [this]; rfl
  have hU := Lib.hid (⟨unq_34 (s := s), unq_39 (s := s), unq_other (s := s)⟩ : (∀ h1 : 1 ≤ s.size, s[0] = 34 → _) ∧ (∀ h1 : 1 ≤ s.size, s[0] = 39 → _) ∧ (∀ h1 : 1 ≤ s.size, s[0] ≠ 34 → s[0] ≠ 39 → _))
  generalize hO : unqL s.data.toList = o at hnil hU ⊢
  clear hO
  by_cases h0 : s.size = 0
  · have e0 : s.toList.isEmpty = true := by
      rw [ByteArray.toList_eq, List.isEmpty_iff]
      exact List.length_eq_zero_iff.1 (by rw [← size_list]; exact h0)
    have HN := Lib.hid (hnil.out h0)
    clear h0 hU
    go_enter Tryd.func50, Tryd.ntmps50
    go_wp2_with fail
    refine bodyPost_ret (v := .tuple #[.string ⟨#[]⟩, .string ⟨#[]⟩, .int .i64 11]) (by simp [results, Tryd.results50, go_sem]) rfl ?_
    exact ⟨_, _, _, rfl, .inr ⟨HN.out, rfl, rfl, rfl⟩, Below.refl _ _⟩
  have h1 : 1 ≤ s.size := by omega
  have e0 : s.toList.isEmpty = false := by
    rw [Bool.eq_false_iff]
    intro e
    rw [ByteArray.toList_eq, List.isEmpty_iff] at e
    rw [size_list, e] at h1; simp at h1
  have hp : (0 : Int) < s.size := by omega
  obtain ⟨hU1, hU2, hU3⟩ := hU.out
  have h256 := UInt8.toNat_lt s[0]
  by_cases c34 : s[0] = 34
  · have d34 : ((s[0].toNat : Int) == 34) = true := by rw [c34]; rfl
    have CD := Lib.hid (show Calls Tryd.prog 91 #[.string s] w (UnqPost w o) from hU1 h1 c34 ▸ tdouble s h1 hs w)
    clear c34 hU1 hU2 hU3 hU h0
    go_enter Tryd.func50, Tryd.ntmps50
    go_wp2_with fail
    refine CD.out.mono ?_
    rintro e w1 ⟨v1, v2, ec, rfl, hu, hb⟩
    go_wp2_with fail
    refine bodyPost_ret (v := .tuple #[.string v1, .string v2, .int .i64 ec]) (by simp [results, Tryd.results50, go_sem]) rfl ?_
    exact ⟨_, _, _, rfl, hu, hb⟩
  have d34 : ((s[0].toNat : Int) == 34) = false := u8_ne (n := 34) (by decide) c34
  by_cases c39 : s[0] = 39
  · have d39 : ((s[0].toNat : Int) == 39) = true := by rw [c39]; rfl
    have CD := Lib.hid (show Calls Tryd.prog 92 #[.string s] w (UnqPost w o) from hU2 h1 c39 ▸ tsingle s h1 hs w)
    clear c34 c39 hU1 hU2 hU3 hU h0
    go_enter Tryd.func50, Tryd.ntmps50
    go_wp2_with fail
    refine CD.out.mono ?_
    rintro e w1 ⟨v1, v2, ec, rfl, hu, hb⟩
    go_wp2_with fail
    refine bodyPost_ret (v := .tuple #[.string v1, .string v2, .int .i64 ec]) (by simp [results, Tryd.results50, go_sem]) rfl ?_
    exact ⟨_, _, _, rfl, hu, hb⟩
  have d39 : ((s[0].toNat : Int) == 39) = false := u8_ne (n := 39) (by decide) c39
  have HN := Lib.hid (hU3 h1 c34 c39)
  clear c34 c39 hU1 hU2 hU3 hU h0
  go_enter Tryd.func50, Tryd.ntmps50
  go_wp2_with fail
  refine bodyPost_ret (v := .tuple #[.string ⟨#[]⟩, .string ⟨#[]⟩, .int .i64 11]) (by simp [results, Tryd.results50, go_sem]) rfl ?_
  exact ⟨_, _, _, rfl, .inr ⟨HN.out, rfl, rfl, rfl⟩, Below.refl _ _⟩
end Go.Proofs.YtjnbjehcmckdeaaDoor
