/- Whether a value counts as true: tree.Truth and the reference's. -/
import Derived.Test.YtmdihildjblgnaaMake
import Derived.Test.YtmdihildjblgnaaRight
namespace Go.Proofs.Ytmdihildjblgnaa
open Go.RowKit

def T.truth (t : T) : Bool := t.bool || (t.int != 0) || (!t.str.toList.isEmpty) || decide (0 < t.list.length + t.map.length)

/-- Of a value that has just what its kind has: what its kind's part says. -/
theorem bare_truth {t : T} (h : t.bareB = true) : t.truth = if t.kind = 1 then t.bool else if t.kind = 2 then (t.int != 0) else if t.kind = 3 then !t.str.toList.isEmpty else if t.kind = 4 then decide (0 < t.list.length) else if t.kind = 5 then decide (0 < t.map.length) else false := by
  unfold T.truth
  unfold T.bareB at h
  simp only [Bool.and_eq_true, Bool.or_eq_true, decide_eq_true_eq, Bool.not_eq_true', List.isEmpty_iff] at h
  obtain ⟨⟨⟨⟨⟨⟨_, _⟩, h1⟩, h2⟩, h3⟩, h4⟩, h5⟩ := h
  (repeat' split) <;> simp_all

set_option maxRecDepth 100000 in
set_option maxHeartbeats 1000000 in
theorem ttruth (t : T) (v : Value) (w : World) (S : Nat → Prop) (h : RepT w S v t) : Calls Try.prog 33 #[v] w fun e w' => e = .returned (.bool t.truth) ∧ Below w.heap.size w w' := by
  obtain ⟨la, lc, ma, mc, rfl, hp⟩ := h.inv
  obtain ⟨hk, hn, hs, hl, hm, -⟩ := hp
  unfold T.truth
  clear h
  generalize t.kind = k1 at *
  generalize t.bool = b1 at *
  generalize t.int = n1 at *
  generalize t.str = s1 at *
  generalize t.list.length = l1 at *
  generalize t.map.length = m1 at *
  go_enter Try.func33, Try.ntmps33
  cases b1
  · by_cases h1 : n1 = 0
    · subst h1
      by_cases h2 : s1.toList = []
      · have g2 : s1.toList.isEmpty = true := by rw [h2]; rfl
        have g3 : IntKind.i64.wrap ((l1 : Int) + (m1 : Int)) = (l1 : Int) + (m1 : Int) := wrap_fit (by omega) (by omega)
        go_wp2_with fail
        go_ret
        refine ⟨?_, Below.new _ _⟩
        show Ending.returned (.bool (decide ((0 : Int) < (l1 : Int) + (m1 : Int)))) = _
        have e : decide ((0 : Int) < (l1 : Int) + (m1 : Int)) = decide (0 < l1 + m1) := by rw [decide_eq_decide]; omega
        rw [e]; simp [h2]
      · have g2 : s1.toList.isEmpty = false := by simpa using h2
        go_wp2_with fail
        go_ret
        exact ⟨by simp [h2], Below.new _ _⟩
    · have g1 : (n1 != 0) = true := bne_iff_ne.2 h1
      go_wp2_with fail
      go_ret
      exact ⟨by simp [g1], Below.new _ _⟩
  · go_wp2_with fail
    go_ret
    exact ⟨by simp, Below.new _ _⟩

set_option maxRecDepth 100000 in
set_option maxHeartbeats 1000000 in
theorem rtruth (t : T) (v : Value) (w : World) (S : Nat → Prop) (h : RepT w S v t) (hb : t.bareB = true) : Calls Try.prog 42 #[v] w fun e w' => e = .returned (.bool t.truth) ∧ Below w.heap.size w w' := by
  obtain ⟨la, lc, ma, mc, rfl, hp⟩ := h.inv
  obtain ⟨hk, hn, hs, hl, hm, -⟩ := hp
  have HT := Lib.hid (bare_truth hb)
  clear h hb
  generalize t.truth = r at *
  generalize t.kind = k1 at *
  generalize t.bool = b1 at *
  generalize t.int = n1 at *
  generalize t.str = s1 at *
  generalize t.list.length = l1 at *
  generalize t.map.length = m1 at *
  go_enter Try.func42, Try.ntmps42
  by_cases h1 : k1 = 1
  · subst h1
    go_wp2_with fail
    go_ret
    exact ⟨by rw [HT.out]; rfl, Below.new _ _⟩
  by_cases h2 : k1 = 2
  · subst h2
    go_wp2_with fail
    go_ret
    exact ⟨by rw [HT.out]; simp, Below.new _ _⟩
  by_cases h3 : k1 = 3
  · subst h3
    go_wp2_with fail
    go_ret
    exact ⟨by rw [HT.out]; simp, Below.new _ _⟩
  by_cases h4 : k1 = 4
  · subst h4
    go_wp2_with fail
    go_ret
    exact ⟨by rw [HT.out]; simp, Below.new _ _⟩
  by_cases h5 : k1 = 5
  · subst h5
    go_wp2_with fail
    go_ret
    exact ⟨by rw [HT.out]; simp, Below.new _ _⟩
  · have g1 : (k1 == 1) = false := beq_eq_false_iff_ne.2 h1
    have g2 : (k1 == 2) = false := beq_eq_false_iff_ne.2 h2
    have g3 : (k1 == 3) = false := beq_eq_false_iff_ne.2 h3
    have g4 : (k1 == 4) = false := beq_eq_false_iff_ne.2 h4
    have g5 : (k1 == 5) = false := beq_eq_false_iff_ne.2 h5
    have HF : Hid (r = false) := by rw [HT.out, if_neg h1, if_neg h2, if_neg h3, if_neg h4, if_neg h5]; rfl
    clear h1 h2 h3 h4 h5
    go_wp2_with fail
    go_ret
    exact ⟨by rw [HF.out]; rfl, Below.new _ _⟩

end Go.Proofs.Ytmdihildjblgnaa
