/- The path laws' words: the same texts? -/
import Derived.Test.YtjnbjehcmckdeaaDoorPath
import Derived.Deep.QuietTactic
import Derived.BigQuiet
namespace Go.Proofs.YtjnbjehcmckdeaaDoor
open Go.RowKit
attribute [local go_sem ↓] Go.wp_at_zero Go.wp_at_succ

theorem ext_texts {l m : List ByteArray} (h : l.length = m.length) (he : ∀ i (h1 : i < l.length) (h2 : i < m.length), l[i] = m[i]) : l = m := List.ext_getElem h he

set_option maxRecDepth 100000 in
set_option maxHeartbeats 2000000 in
theorem ttexts_eq (l : List ByteArray) (a b : Option Addr) (c d : Nat) (w : World) (hl : RepS w (fun _ => True) a l) (hm : RepS w (fun _ => True) b l) (hl1 : l.length ≤ 1000000) :
    Calls Tryd.prog 44 #[.slice a l.length c, .slice b l.length d] w fun e w' => e = .returned (.bool true) ∧ Below w.heap.size w w' := by
  have HL := Lib.hid hl
  have HM := Lib.hid hm
  clear hl hm
  go_enter Tryd.func44, Tryd.ntmps44
  go_wp2_with fail
  go_loopw [13] (fun x wr => ∃ q : Nat, q ≤ l.length ∧ x = .int .i64 q ∧ Below w.heap.size w wr) (fun x _ => l.length - (intOf x).toNat)
  case atStart => exact ⟨0, Nat.zero_le _, rfl, Below.refl _ _⟩
  case round =>
    obtain ⟨q, hq, rfl, hb⟩ := hrel
    by_cases hlt : q < l.length
    · obtain ⟨b1, o1, rfl, -, hl1, hc1, -⟩ := (HL.out.keep hb) q hlt
      obtain ⟨b2, o2, rfl, -, hl2, hc2, -⟩ := (HM.out.keep hb) q hlt
      have hi1 : (0 : Int) ≤ (q : Int) := by omega
      have hi2 : (q : Int) < (l.length : Int) := by omega
      have HB := Lib.hid hb
      clear hb
      generalize l[q] = s at *
      go_wp2_with fail
      go_quiet (fail)
      go_wp2_with fail
      go_roundw
      case rel => exact ⟨q + 1, by omega, by go_num, Below.drewN HB.out _⟩
      case measure => simp [intOf]; omega
    · obtain rfl : q = l.length := by omega
      have HB := Lib.hid hb
      clear hb
      go_wp2_with fail
      go_ret
      exact ⟨rfl, HB.out⟩
end Go.Proofs.YtjnbjehcmckdeaaDoor
