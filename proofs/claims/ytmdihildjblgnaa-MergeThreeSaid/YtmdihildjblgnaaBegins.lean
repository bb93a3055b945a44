/- path.Begins: whether a path begins as another one does. -/
import Derived.Test.YtmdihildjblgnaaPath
import Derived.Test.YtmdihildjblgnaaShelf
namespace Go.Proofs.Ytmdihildjblgnaa
open Go.RowKit
attribute [local go_sem ↓] Go.wp_at_zero Go.wp_at_succ

def begins (l m : List ByteArray) : Bool := decide (m.length ≤ l.length ∧ l.take m.length = m)
def BegPost (b : Bool) (w : World) (e : Ending) (w' : World) : Prop := e = .returned (.bool b) ∧ ∃ q, w' = w.drewN q
theorem RepS.cells {w : World} {S : Nat → Prop} {b o : Nat} {l : List ByteArray} (h : RepS w S (some ⟨b, o, none⟩) l) : ∀ j, j < l.length → w.cell? ⟨b, o + j, none⟩ = some (.string (l.getD j ByteArray.empty)) := fun j hj => by
  obtain ⟨b', o', e, _, _, hc, _⟩ := h j hj
  obtain ⟨rfl, rfl⟩ : b = b' ∧ o = o' := by simpa using e
  rw [hc]; simp [List.getD, hj]

set_option maxRecDepth 100000 in
set_option maxHeartbeats 2000000 in
theorem tbegins (l m : List ByteArray) (a b : Option Addr) (c d : Nat) (w : World) (hl : RepS w (fun _ => True) a l) (hm : RepS w (fun _ => True) b m) (hl1 : l.length ≤ c) (hl2 : c ≤ maxLen) (hm1 : m.length ≤ 1000000) :
    Calls Try.prog 59 #[.slice a l.length c, .slice b m.length d] w (BegPost (begins l m) w) := by
  unfold maxLen at hl2
  rcases Nat.lt_or_ge l.length m.length with hlt | hge
  · have HB : Hid (begins l m = false) := by show begins l m = false; unfold begins; rw [decide_eq_false]; omega
    clear hl hm
    generalize l.length = ll at *
    generalize m.length = mm at *
    go_enter Try.func59, Try.ntmps59
    go_wp2_with fail
    go_ret
    exact ⟨by rw [HB.out]; rfl, 0, rfl⟩
  · cases m with
    | nil =>
      have HB : Hid (begins l [] = true) := by show begins l [] = true; unfold begins; simp
      have HC := Lib.hid (fun a c d w => Try.slices_Equal_string_empty a b c 0 d w (by omega))
      clear hl hm
      have h0 : (0 : Int) ≤ (c : Int) := by omega
      go_enter Try.func59, Try.ntmps59
      go_wp2_with (go_at_call 105; refine (HC.out _ _ _ _).mono ?_; rintro e w2 ⟨rfl, rfl⟩)
      go_ret
      exact ⟨by rw [HB.out]; rfl, 0, rfl⟩
    | cons s r =>
      obtain ⟨b1, o1, rfl, -⟩ := hm 0 (by simp)
      obtain ⟨b2, o2, rfl, -⟩ := hl 0 (by simp at hge; omega)
      have hB : decide (l.take (s :: r).length = (s :: r).take (s :: r).length) = begins l (s :: r) := by
        unfold begins
        rw [List.take_length]
        rw [Bool.eq_iff_iff, decide_eq_true_eq, decide_eq_true_eq]
        exact ⟨fun h => ⟨hge, h⟩, fun h => h.2⟩
      have HC := Lib.hid (fun w' c d h1 h2 => (hB ▸ Try.slices_Equal_string b2 o2 (s :: r).length c b1 o1 (s :: r).length d l (s :: r) w' hge (Nat.le_refl _) (by omega) (by omega) h1 h2 : Calls Try.prog 105 #[.slice (some ⟨b2, o2, none⟩) (s :: r).length c, .slice (some ⟨b1, o1, none⟩) (s :: r).length d] w' (BegPost (begins l (s :: r)) w')))
      have H1 := Lib.hid hl.cells
      have H2 := Lib.hid hm.cells
      clear hl hm hB
      generalize begins l (s :: r) = bb at *
      have hm2 : 1 ≤ (s :: r).length := by simp
      generalize (s :: r).length = mm at *
      have h0 : (0 : Int) ≤ (mm : Int) := by omega
      have h1 : (mm : Int) ≤ (c : Int) := by omega
      have h2 : (mm : Int) ≤ (l.length : Int) := by omega
      generalize l.length = ll at *
      go_enter Try.func59, Try.ntmps59
      go_wp2_with (go_at_call 105; refine (HC.out _ _ _ H1.out H2.out).mono ?_; rintro e w2 ⟨rfl, q, rfl⟩)
      go_ret
      exact ⟨rfl, q, rfl⟩
end Go.Proofs.Ytmdihildjblgnaa
