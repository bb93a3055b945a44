/- tree.Null, Bool, Int, Str: what is made. -/
import Derived.Test.YtmdihildjblgnaaGetW
namespace Go.Proofs.Ytmdihildjblgnaa
open Go.RowKit

theorem rep_leaf (w : World) (S : Nat → Prop) (k : Int) (b : Bool) (n : Int) (s : ByteArray) (hk : i64ok k) (hn : i64ok n) (hs : s.size ≤ 140737488351232) :
    RepT w S (.agg #[.int .i64 k, .bool b, .int .i64 n, .string s, .slice none 0 0, .slice none 0 0]) (.mk k b n s [] []) :=
  RepT.of (t := .mk k b n s [] []) (la := none) (lc := 0) (ma := none) (mc := 0) ⟨hk, hn, hs, by simp [T.list], by simp [T.map], by simp [T.list], by simp [T.map], by unfold maxLen; omega, by unfold maxLen; omega, fun i hi => by simp [T.list] at hi, fun i hi => by simp [T.map] at hi⟩

theorem tnull (w : World) : Calls Try.prog 62 #[] w (NewPost w T.zero) := by
  go_enter Try.func62, Try.ntmps62
  go_wp2_with fail
  exact ret_cell rfl rfl (Blk.new _ _ _) Try.underlying25 val_size rfl ⟨_, rfl, rep_zero _ _, Below.new _ _⟩
theorem tbool (b : Bool) (w : World) : Calls Try.prog 77 #[.bool b] w (NewPost w (.mk 1 b 0 ⟨#[]⟩ [] [])) := by
  go_enter Try.func77, Try.ntmps77
  go_wp2_with fail
  exact ret_cell rfl rfl (Blk.new _ _ _) Try.underlying25 val_size rfl ⟨_, rfl, rep_leaf _ _ 1 b 0 ⟨#[]⟩ (by unfold i64ok; omega) (by unfold i64ok; omega) (by simp [ByteArray.size]), Below.new _ _⟩
theorem tint (n : Int) (hn : i64ok n) (w : World) : Calls Try.prog 78 #[.int .i64 n] w (NewPost w (.mk 2 false n ⟨#[]⟩ [] [])) := by
  go_enter Try.func78, Try.ntmps78
  go_wp2_with fail
  exact ret_cell rfl rfl (Blk.new _ _ _) Try.underlying25 val_size rfl ⟨_, rfl, rep_leaf _ _ 2 false n ⟨#[]⟩ (by unfold i64ok; omega) hn (by simp [ByteArray.size]), Below.new _ _⟩
theorem tstr (s : ByteArray) (hs : s.size ≤ 140737488351232) (w : World) : Calls Try.prog 79 #[.string s] w (NewPost w (.mk 3 false 0 s [] [])) := by
  go_enter Try.func79, Try.ntmps79
  go_wp2_with fail
  exact ret_cell rfl rfl (Blk.new _ _ _) Try.underlying25 val_size rfl ⟨_, rfl, rep_leaf _ _ 3 false 0 s (by unfold i64ok; omega) (by unfold i64ok; omega) hs, Below.new _ _⟩

end Go.Proofs.Ytmdihildjblgnaa
