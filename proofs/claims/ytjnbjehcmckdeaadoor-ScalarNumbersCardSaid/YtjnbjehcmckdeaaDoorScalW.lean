/- A tied scalar law's witness: what the text imports; what the row lists says of the library's variables. -/
import Derived.Test.YtjnbjehcmckdeaaDoorTied
import Derived.Test.YtjnbjehcmckdeaaDoorScalV
import Derived.Test.YtjnbjehcmckdeaaDoorOpen
import Derived.ProofKit
import Derived.LaidMore
import Derived.OpenShut
import Derived.Stop.Joined
namespace Go.Proofs.YtjnbjehcmckdeaaDoor
open Go.ChangeShapes Go.WideShapes Go.ChangeAt Go.WideMaps Go.WideElems Go.RowKit

theorem star_err : "*" ++ "errors.errorString" = "*errors.errorString" := by decide
theorem row_err (u : TypeId) (h : Tryd.prog.typeName? 3 u = some "*errors.errorString") : u = 174 :=
  typeName_ptr_named (nm := "errors.errorString") (by rw [star_err]; kernel_rfl) (by kernel_rfl) (by decide) u (by rw [star_err]; exact h)
theorem scal_of {W : World} (h : laidMetH Tryd.prog Rows.scalarBaresRow.laid W) : ScalV W := by
  rw [MakeChecks.laidMetH_plain _ _ _ (by kernel_rfl)] at h
  have h1 : laidMet Tryd.prog (("internal/strconv.uint64pow10", Lib.tabData .u64 Lib.pow10Tab) :: ("strconv.ErrRange", Rows.laid_strconv_ErrRange) :: ("strconv.ErrSyntax", Rows.laid_strconv_ErrSyntax) :: []) W := laidMet.tail (laidMet.tail h)
  have h2 := h1.tail
  have ht : Lib.TabIs Tryd.prog W "internal/strconv.uint64pow10" .u64 Lib.pow10Tab := Lib.tabIs_of_head (g := 4) (t := 164) (e := 138) (n := 20) (by kernel_rfl) (by kernel_rfl) (by kernel_rfl) (by kernel_rfl) (by kernel_rfl) (by kernel_rfl) h1
  obtain ⟨a, s, hv, -⟩ := laid_sentinel (g := 3) (ti := 102) (tp := 174) (te := 176) (ts := 9) h2 (by kernel_rfl) (by kernel_rfl) Tryd.underlying102 row_err Tryd.underlying174 Tryd.underlying176 rfl rfl Tryd.underlying9 (by kernel_rfl) (by kernel_rfl)
  exact ⟨ht, _, _, hv⟩
theorem u8_of {n : Int} (h : (Lit.int .u8 n).wf = true) : ∃ c : UInt8, n = c.toNat := by
  have h1 : 0 ≤ n ∧ n < 256 := by
    have e1 : IntKind.u8.min = 0 := by decide
    have e2 : IntKind.u8.max = 255 := by decide
    simp [Lit.wf] at h
    rw [e1, e2] at h
    omega
  refine ⟨UInt8.ofNat n.toNat, ?_⟩
  rw [UInt8.toNat_ofNat']; omega
end Go.Proofs.YtjnbjehcmckdeaaDoor
