/- tree.Null, Bool, Int, Str: what is made. -/
import Derived.Test.YtgbbojnigicnoaaDoorGetB
namespace Go.Proofs.YtgbbojnigicnoaaDoor
open Go.RowKit

theorem rep_leaf (w : World) (S : Nat → Prop) (k : Int) (b : Bool) (n : Int) (s : ByteArray) (hk : i64ok k) (hn : i64ok n) (hs : s.size ≤ 140737488351232) :
    RepT w S (.agg #[.int .i64 k, .bool b, .int .i64 n, .string s, .slice none 0 0, .slice none 0 0]) (.mk k b n s [] []) :=
  RepT.of (t := .mk k b n s [] []) (la := none) (lc := 0) (ma := none) (mc := 0) ⟨hk, hn, hs, by simp [T.list], by simp [T.map], by simp [T.list], by simp [T.map], by unfold maxLen; omega, by unfold maxLen; omega, fun i hi => by simp [T.list] at hi, fun i hi => by simp [T.map] at hi⟩

theorem tstr (s : ByteArray) (hs : s.size ≤ 140737488351232) (w : World) : Calls Tryd.prog 14 #[.string s] w (NewPost w (.mk 3 false 0 s [] [])) := by
  go_enter Tryd.func14, Tryd.ntmps14
  go_wp2_with fail
  exact ret_cell rfl rfl (Blk.new _ _ _) Tryd.underlying25 val_size rfl ⟨_, rfl, rep_leaf _ _ 3 false 0 s (by unfold i64ok; omega) (by unfold i64ok; omega) hs, Below.new _ _⟩

end Go.Proofs.YtgbbojnigicnoaaDoor
