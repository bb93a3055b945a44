/- What scalar reads of the world: the library's table of powers of ten, and its error of what is too great. -/
import Derived.Test.YtgbbojnigicnoaaDoorMem
import Derived.Test.YtgbbojnigicnoaaDoorShelf
import Derived.Lib.ItoaNum
import Derived.Lib.LaidTab
import Derived.Stop.LaidErr
namespace Go.Proofs.YtgbbojnigicnoaaDoor
open Go.RowKit

theorem var_keep {P : Program} {w w' : World} {n : String} {cs : Array Value} (h : w.var? P n = some cs) (hb : Below w.heap.size w w') : w'.var? P n = some cs := by
  unfold World.var? at h ⊢
  cases hg : P.globalNamed n with
  | none => simp [hg] at h
  | some g =>
    simp only [hg, Option.bind_some] at h ⊢
    have hlt : g < w.heap.size := by
      rcases Nat.lt_or_ge g w.heap.size with h' | h'
      · exact h'
      · simp [Array.getElem?_eq_none h'] at h
    rw [hb.block g hlt]
    exact h
/-- What strconv needs. -/
def ScalV (w : World) : Prop := Lib.TabIs Tryd.prog w "internal/strconv.uint64pow10" .u64 Lib.pow10Tab ∧ ∃ tp p, w.var? Tryd.prog "strconv.ErrRange" = some #[.iface tp p]
theorem ScalV.keep {w w' : World} (h : ScalV w) (hb : Below w.heap.size w w') : ScalV w' := by
  obtain ⟨h1, tp, p, h2⟩ := h
  exact ⟨var_keep h1 hb, tp, p, var_keep h2 hb⟩
end Go.Proofs.YtgbbojnigicnoaaDoor
