/- mizzenref02.Begins. -/
import Derived.Test.YtmdihildjblgnaaBegins
import Derived.Deep.QuietTactic
import Derived.BigQuiet
namespace Go.Proofs.Ytmdihildjblgnaa
open Go.RowKit
attribute [local go_sem ↓] Go.wp_at_zero Go.wp_at_succ

theorem begins_no {l m : List ByteArray} {q : Nat} (hm : q < m.length) (h : ∀ hl : q < l.length, l[q] ≠ m[q]) : begins l m = false := by
  unfold begins
  refine decide_eq_false (fun ⟨h1, h2⟩ => h (by omega) ?_)
  have := congrArg (fun x : List ByteArray => x[q]?) h2
  rw [List.getElem?_take_of_lt hm, List.getElem?_eq_getElem (by omega : q < l.length), List.getElem?_eq_getElem hm] at this
  simpa using this
theorem begins_yes {l m : List ByteArray} (h : ∀ j (hj : j < m.length), ∃ hl : j < l.length, l[j] = m[j]) : begins l m = true := by
  unfold begins
  have hl : m.length ≤ l.length := by
    rcases Nat.lt_or_ge l.length m.length with hlt | hge
    · obtain ⟨h1, -⟩ := h l.length hlt
      omega
    · exact hge
  refine decide_eq_true ⟨hl, List.ext_getElem (by simp; omega) fun i h1 h2 => ?_⟩
  obtain ⟨h3, h4⟩ := h i h2
  rw [List.getElem_take, h4]
set_option maxRecDepth 100000 in
set_option maxHeartbeats 4000000 in
theorem rbegins (l m : List ByteArray) (a b : Option Addr) (c d : Nat) (w : World) (hl : RepS w (fun _ => True) a l) (hm : RepS w (fun _ => True) b m) (hl1 : l.length ≤ 1000000) :
    Calls Try.prog 84 #[.slice a l.length c, .slice b m.length d] w fun e w' => e = .returned (.bool (begins l m)) ∧ Below w.heap.size w w' := by
  have HL := Lib.hid hl
  have HM := Lib.hid hm
  clear hl hm
  go_enter Try.func84, Try.ntmps84
  go_wp2_with fail
  go_loopw [5] (fun x wr => ∃ q : Nat, q ≤ m.length ∧ x = .int .i64 q ∧ Hid (∀ j (hj : j < m.length), j < q → ∃ hl : j < l.length, l[j] = m[j]) ∧ Hid (Below w.heap.size w wr)) (fun x _ => m.length - (intOf x).toNat)
  case atStart => exact ⟨0, Nat.zero_le _, rfl, Lib.hid (fun j hj h => by omega), Lib.hid (Below.refl _ _)⟩
  case round =>
    obtain ⟨q, hq, rfl, HQ, HB⟩ := hrel
    by_cases hlt : q < m.length
    · have hq2 : (q : Int) < (m.length : Int) := by omega
      obtain ⟨b2, o2, rfl, -, hz2, hc2, -⟩ := (HM.out.keep HB.out) q hlt
      by_cases hll : q < l.length
      · obtain ⟨b1, o1, rfl, -, hz1, hc1, -⟩ := (HL.out.keep HB.out) q hll
        have hi0 : (0 : Int) ≤ (q : Int) := by omega
        have hi1 : (q : Int) < (l.length : Int) := by omega
        have g1 : decide ((l.length : Int) ≤ q) = false := decide_eq_false (by omega)
        by_cases he : l[q] = m[q]
        · have ge : (l[q].toList == m[q].toList) = true := by rw [keq_iff]; exact decide_eq_true he
          have ge2 : (l[q].toList != m[q].toList) = false := by rw [bne, ge]; rfl
          have HN := Lib.hid (show ∀ j (hj : j < m.length), j < q + 1 → ∃ hl : j < l.length, l[j] = m[j] from fun j hj hjq => by
            by_cases e : j = q
            · subst e; exact ⟨hll, he⟩
            · exact HQ.out j hj (by omega))
          clear he
          generalize l[q] = s1 at *
          generalize m[q] = s2 at *
          go_wp2_with fail
          go_quiet (fail)
          go_wp2_with fail
          go_roundw
          case rel => exact ⟨q + 1, by omega, by go_num, HN, Lib.hid (Below.drewN HB.out _)⟩
          case measure => simp [intOf]; omega
        · have ge : (l[q].toList == m[q].toList) = false := by rw [keq_iff]; exact decide_eq_false he
          have ge2 : (l[q].toList != m[q].toList) = true := by rw [bne, ge]; rfl
          have HF := Lib.hid (begins_no hlt (fun _ => he))
          clear he
          generalize l[q] = s1 at *
          generalize m[q] = s2 at *
          go_wp2_with fail
          go_quiet (fail)
          go_wp2_with fail
          go_ret
          exact ⟨by rw [HF.out]; rfl, Below.drewN HB.out _⟩
      · have g1 : decide ((l.length : Int) ≤ q) = true := decide_eq_true (by omega)
        have g2 : (l.length : Int) ≤ q := by omega
        have HF := Lib.hid (begins_no hlt (fun h => absurd h hll))
        clear hll
        go_wp2_with fail
        go_quiet (fail)
        go_wp2_with fail
        go_ret
        exact ⟨by rw [HF.out]; rfl, Below.drewN HB.out _⟩
    · have hq2 : q = m.length := by omega
      have hq3 : ¬ (q : Int) < (m.length : Int) := by omega
      have HF := Lib.hid (begins_yes (fun j hj => HQ.out j hj (by omega)))
      go_wp2_with fail
      go_ret
      exact ⟨by rw [HF.out]; rfl, HB.out⟩
end Go.Proofs.Ytmdihildjblgnaa
