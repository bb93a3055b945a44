/- A statement, and what follows it as a letter. -/
import Derived.Test.YtgbbojnigicnoaaDoorTailB
import Derived.Deep.Cut
import Derived.Deep.DeepCutAuto
namespace Go.Proofs.YtgbbojnigicnoaaDoor

/-- Of a sequence: the first statement, what follows kept shut. -/
theorem wp_seq_cut {P : Program} {x y : Code} {Q : Exit → Act → World → Prop} {a : Act} {w : World} (h : ∀ K : Act → World → Prop, Shut (∀ a w, y.wp P Q a w → K a w) → x.wp P (Exit.then K Q) a w) : (Code.seq x y).wp P Q a w :=
  wp_seq (h _ (fun _ _ h => h))
end Go.Proofs.YtgbbojnigicnoaaDoor
