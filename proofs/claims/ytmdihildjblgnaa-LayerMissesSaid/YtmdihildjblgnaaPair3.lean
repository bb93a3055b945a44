/- The laws' pair of a key and a value. -/
import Derived.Test.YtmdihildjblgnaaOut
namespace Go.Proofs.Ytmdihildjblgnaa
open Go.RowKit
attribute [local go_sem ↓] Go.wp_at_zero Go.wp_at_succ

set_option maxRecDepth 100000 in
set_option maxHeartbeats 400000 in
/-- A pair, made of a key and a value. -/
theorem tpair (k : ByteArray) (t : T) (la : Option Addr) (lc : Nat) (ma : Option Addr) (mc : Nat) (w : World) :
    Calls Try.prog 92 #[.string k, .agg #[.int .i64 t.kind, .bool t.bool, .int .i64 t.int, .string t.str, .slice la t.list.length lc, .slice ma t.map.length mc]] w fun e w' => e = .returned (.agg #[.string k, .int .i64 t.kind, .bool t.bool, .int .i64 t.int, .string t.str, .slice la t.list.length lc, .slice ma t.map.length mc]) ∧ Below w.heap.size w w' := by
  go_enter Try.func92, Try.ntmps92
  go_wp2_with fail
  exact ret_cell rfl rfl (Blk.new_at (w.alloc (.cells #[.int .i64 t.kind, .bool t.bool, .int .i64 t.int, .string t.str, .slice la t.list.length lc, .slice ma t.map.length mc] 25)) 43 #[.string k, .int .i64 t.kind, .bool t.bool, .int .i64 t.int, .string t.str, .slice la t.list.length lc, .slice ma t.map.length mc] (n := w.heap.size + 1) (by simp)) Try.underlying43 (by kernel_rfl) rfl ⟨rfl, (Below.new _ _).alloc (by simp) _⟩
end Go.Proofs.Ytmdihildjblgnaa
