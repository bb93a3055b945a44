/- The reference's parts, and its Check. -/
import Derived.Test.YtdgeegfoocoohaaDoorText
import Derived.Test.YtdgeegfoocoohaaDoorParts
import Derived.Deep.RegionHeld3
import Derived.Deep.DrawnRows
import Derived.Deep.DeepCutAuto
import Derived.BigQuiet
import Derived.Deep.QuietTactic
namespace Go.Proofs.YtdgeegfoocoohaaDoor
open Go.RowKit
attribute [local go_sem ↓] Go.wp_at_zero Go.wp_at_succ

def PartsOk (f : Nat) (t : T) : Prop := ∀ (w : World) (S : Nat → Prop) (v : Value), RepT w S v t →
    Calls Tryd.prog f #[v] w fun e w' => e = .returned (.int .i64 t.parts) ∧ Below w.heap.size w w'

theorem str_empty {s : ByteArray} : (s.toList == []) = s.toList.isEmpty := by cases s.toList <;> rfl

theorem len_pos {α : Type} (l : List α) : decide (0 < l.length) = !l.isEmpty := by cases l <;> simp

end Go.Proofs.YtdgeegfoocoohaaDoor
