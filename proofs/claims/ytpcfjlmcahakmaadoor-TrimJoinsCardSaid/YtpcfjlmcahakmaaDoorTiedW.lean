/- A tied law's witness: what the text imports; strings.Index's variable. -/
import Derived.Test.YtpcfjlmcahakmaaDoorTied
import Derived.Test.YtpcfjlmcahakmaaDoorTrimK
import Derived.Test.YtpcfjlmcahakmaaDoorOpenS
import Derived.ProofKit
import Derived.LaidMore
import Derived.OpenShut
import Derived.Stop.Joined
namespace Go.Proofs.YtpcfjlmcahakmaaDoor
open Go.ChangeShapes Go.WideShapes Go.ChangeAt Go.WideMaps Go.WideElems Go.RowKit

theorem max_of {W : World} (h : W.ShapedOpen Tryd.prog) : MaxL W := Tryd.laysM143.s1_3 W h
end Go.Proofs.YtpcfjlmcahakmaaDoor
