/- tree.Null, Bool, Int, Str: what is made. -/
import Derived.Test.YthkkmnmejciomaaGetW
namespace Go.Proofs.Ythkkmnmejciomaa
open Go.RowKit

theorem rep_leaf (w : World) (S : Nat → Prop) (k : Int) (b : Bool) (n : Int) (s : ByteArray) (hk : i64ok k) (hn : i64ok n) (hs : s.size ≤ 140737488351232) :
    RepT w S (.agg #[.int .i64 k, .bool b, .int .i64 n, .string s, .slice none 0 0, .slice none 0 0]) (.mk k b n s [] []) :=
  RepT.of (t := .mk k b n s [] []) (la := none) (lc := 0) (ma := none) (mc := 0) ⟨hk, hn, hs, by simp [T.list], by simp [T.map], by simp [T.list], by simp [T.map], by unfold maxLen; omega, by unfold maxLen; omega, fun i hi => by simp [T.list] at hi, fun i hi => by simp [T.map] at hi⟩

theorem tnull (w : World) : Calls Try.prog 20 #[] w (NewPost w T.zero) := by
  go_enter Try.func20, Try.ntmps20
  go_wp2_with fail
  exact ret_cell rfl rfl (Blk.new _ _ _) Try.underlying25 val_size rfl ⟨_, rfl, rep_zero _ _, Below.new _ _⟩
theorem tint (n : Int) (hn : i64ok n) (w : World) : Calls Try.prog 19 #[.int .i64 n] w (NewPost w (.mk 2 false n ⟨#[]⟩ [] [])) := by
  go_enter Try.func19, Try.ntmps19
  go_wp2_with fail
  exact ret_cell rfl rfl (Blk.new _ _ _) Try.underlying25 val_size rfl ⟨_, rfl, rep_leaf _ _ 2 false n ⟨#[]⟩ (by unfold i64ok; omega) hn (by simp [ByteArray.size]), Below.new _ _⟩
end Go.Proofs.Ythkkmnmejciomaa
