/- mizzenref04.Print, Text. -/
import Derived.Test.YtjnbjehcmckdeaaDoorScalRB
import Derived.Test.YtjnbjehcmckdeaaDoorScalRD
import Derived.Test.YtjnbjehcmckdeaaDoorScalN
namespace Go.Proofs.YtjnbjehcmckdeaaDoor
open Go.RowKit
attribute [local go_sem ↓] Go.wp_at_zero Go.wp_at_succ

set_option maxRecDepth 100000 in
set_option maxHeartbeats 8000000 in
theorem rprint (t : T) (v : Value) (w : World) (S : Nat → Prop) (h : RepT w S v t) (hs : t.str.size ≤ 1000000) : Calls Tryd.prog 36 #[v] w (FreshPost w (printL t)) := by
  obtain ⟨la, lc, ma, mc, rfl, hp⟩ := h.inv
  have HN := Lib.hid hp.2.1
  clear hp h
  have HW := Lib.hid (Below.new w (.cells #[.int .i64 t.kind, .bool t.bool, .int .i64 t.int, .string t.str, .slice la t.list.length lc, .slice ma t.map.length mc] 38))
  have HP := Lib.hid (show printL t = _ from rfl)
  by_cases k1 : t.kind = 1
  · have g1 : (t.kind == 1) = true := by rw [k1]; rfl
    cases hb : t.bool
    · have HE := Lib.hid (show printL t = falseW by rw [printL, if_pos k1, hb]; rfl)
      clear k1 HP
      go_enter Tryd.func36, Tryd.ntmps36
      go_wp2_with fail
      go_ret
      exact ⟨_, rfl, HE.out.symm, by simpa only [hb] using HW.out⟩
    · have HE := Lib.hid (show printL t = trueW by rw [printL, if_pos k1, hb]; rfl)
      clear k1 HP
      go_enter Tryd.func36, Tryd.ntmps36
      go_wp2_with fail
      go_ret
      exact ⟨_, rfl, HE.out.symm, by simpa only [hb] using HW.out⟩
  have g1 : (t.kind == 1) = false := by simpa using k1
  by_cases k2 : t.kind = 2
  · have g2 : (t.kind == 2) = true := by rw [k2]; rfl
    have HE := Lib.hid (show printL t = Lib.itoa t.int by rw [printL, if_neg k1, if_pos k2])
    clear k1 k2 HP
    go_enter Tryd.func36, Tryd.ntmps36
    go_wp2_with fail
    refine (rdigits _ HN.out _).mono ?_
    rintro e w1 ⟨q, rfl, hq, hb1⟩
    go_wp2_with fail
    go_ret
    exact ⟨_, rfl, by rw [HE.out, hq], Below.next HW.out hb1⟩
  have g2 : (t.kind == 2) = false := by simpa using k2
  by_cases k3 : t.kind = 3
  · have g3 : (t.kind == 3) = true := by rw [k3]; rfl
    obtain ⟨bb, hbb⟩ : ∃ d, d = bareL t.str.data.toList := ⟨_, rfl⟩
    have CB := Lib.hid (fun w2 => show Calls Tryd.prog 35 #[.string t.str] w2 (fun e w' => e = .returned (.bool bb) ∧ w2 = w') from hbb ▸ rbare t.str (by omega) w2)
    have CQ := Lib.hid (fun w2 => rquote t.str hs w2)
    cases bb
    · have HE := Lib.hid (show printL t = quoteL t.str.data.toList by rw [printL, if_neg k1, if_neg k2, if_pos k3, ← hbb]; rfl)
      clear k1 k2 k3 HP hbb
      go_enter Tryd.func36, Tryd.ntmps36
      go_wp2_with fail
      refine (CB.out _).mono ?_
      rintro e w1 ⟨rfl, rfl⟩
      go_wp2_with fail
      refine (CQ.out _).mono ?_
      rintro e w2 ⟨q, rfl, hq, rfl⟩
      go_wp2_with fail
      go_ret
      exact ⟨_, rfl, by rw [HE.out, hq], HW.out⟩
    · have HE := Lib.hid (show printL t = t.str.data.toList by rw [printL, if_neg k1, if_neg k2, if_pos k3, ← hbb]; rfl)
      clear k1 k2 k3 HP hbb
      go_enter Tryd.func36, Tryd.ntmps36
      go_wp2_with fail
      refine (CB.out _).mono ?_
      rintro e w1 ⟨rfl, rfl⟩
      go_wp2_with fail
      go_ret
      exact ⟨_, rfl, HE.out.symm, HW.out⟩
  have g3 : (t.kind == 3) = false := by simpa using k3
  by_cases k4 : t.kind = 4
  · have g4 : (t.kind == 4) = true := by rw [k4]; rfl
    have HE := Lib.hid (show printL t = [91, 93] by rw [printL, if_neg k1, if_neg k2, if_neg k3, if_pos k4])
    clear k1 k2 k3 k4 HP
    go_enter Tryd.func36, Tryd.ntmps36
    go_wp2_with fail
    go_ret
    exact ⟨_, rfl, HE.out.symm, HW.out⟩
  have g4 : (t.kind == 4) = false := by simpa using k4
  by_cases k5 : t.kind = 5
  · have g5 : (t.kind == 5) = true := by rw [k5]; rfl
    have HE := Lib.hid (show printL t = [123, 125] by rw [printL, if_neg k1, if_neg k2, if_neg k3, if_neg k4, if_pos k5])
    clear k1 k2 k3 k4 k5 HP
    go_enter Tryd.func36, Tryd.ntmps36
    go_wp2_with fail
    go_ret
    exact ⟨_, rfl, HE.out.symm, HW.out⟩
  have g5 : (t.kind == 5) = false := by simpa using k5
  have HE := Lib.hid (show printL t = nullW by rw [printL, if_neg k1, if_neg k2, if_neg k3, if_neg k4, if_neg k5])
  clear k1 k2 k3 k4 k5 HP
  go_enter Tryd.func36, Tryd.ntmps36
  go_wp2_with fail
  go_ret
  exact ⟨_, rfl, HE.out.symm, HW.out⟩
set_option maxRecDepth 100000 in
set_option maxHeartbeats 8000000 in
theorem rtextS (t : T) (v : Value) (w : World) (S : Nat → Prop) (h : RepT w S v t) (hs : t.str.size ≤ 1000000) : Calls Tryd.prog 38 #[v] w (FreshPost w (textL t)) := by
  have HH := Lib.hid h
  obtain ⟨la, lc, ma, mc, rfl, hp⟩ := h.inv
  clear hp h
  have HW := Lib.hid (Below.new w (.cells #[.int .i64 t.kind, .bool t.bool, .int .i64 t.int, .string t.str, .slice la t.list.length lc, .slice ma t.map.length mc] 38))
  by_cases k0 : t.kind = 0
  · have g0 : (t.kind == 0) = true := by rw [k0]; rfl
    have HE := Lib.hid (show textL t = [] by rw [textL, if_pos k0])
    clear k0
    go_enter Tryd.func38, Tryd.ntmps38
    go_wp2_with fail
    go_ret
    exact ⟨_, rfl, HE.out.symm, HW.out⟩
  have g0 : (t.kind == 0) = false := by simpa using k0
  by_cases k3 : t.kind = 3
  · have g3 : (t.kind == 3) = true := by rw [k3]; rfl
    have HE := Lib.hid (show textL t = t.str.data.toList by rw [textL, if_neg k0, if_pos k3])
    clear k0 k3
    go_enter Tryd.func38, Tryd.ntmps38
    go_wp2_with fail
    go_ret
    exact ⟨_, rfl, HE.out.symm, HW.out⟩
  have g3 : (t.kind == 3) = false := by simpa using k3
  have HE := Lib.hid (show textL t = printL t by rw [textL, if_neg k0, if_neg k3])
  clear k0 k3
  go_enter Tryd.func38, Tryd.ntmps38
  go_wp2_with fail
  refine (rprint t _ _ S (HH.out.keep HW.out) hs).mono ?_
  rintro e w1 ⟨q, rfl, hq, hb⟩
  go_wp2_with fail
  go_ret
  exact ⟨_, rfl, by rw [HE.out, hq], Below.next HW.out hb⟩
end Go.Proofs.YtjnbjehcmckdeaaDoor
