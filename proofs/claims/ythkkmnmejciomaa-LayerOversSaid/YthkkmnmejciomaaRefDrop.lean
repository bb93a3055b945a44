/- The reference's Drop: the walk. -/
import Derived.Test.YthkkmnmejciomaaRefPut
import Derived.Test.YthkkmnmejciomaaDelete
namespace Go.Proofs.Ythkkmnmejciomaa
open Go.RowKit
attribute [local go_sem ↓] Go.wp_at_zero Go.wp_at_succ

def DInv (w wr : World) (vb : Array Value) (k b n s ls : Value) (A : Option Addr) (c : Nat) (l : List (ByteArray × T)) : Prop :=
  Blk wr w.heap.size 25 vb ∧ Blk wr (w.heap.size + 1) 25 #[.int .i64 0, .bool false, .int .i64 0, .string ⟨#[]⟩, .slice none 0 0, .slice none 0 0] ∧ Blk wr (w.heap.size + 1 + 1) 25 #[k, b, n, s, ls, .slice A l.length c] ∧ Below w.heap.size w wr ∧ OwnE eltP wr (w.heap.size + 1 + 1 + 1) (fun b => b < w.heap.size) A c l
theorem dinv_next {w wr : World} {vb : Array Value} {k b n s ls : Value} {A : Option Addr} {c : Nat} {l : List (ByteArray × T)} {kq : ByteArray} {x : T} {c0 c1 c2 c3 c4 c5 : Value} (h : DInv w wr vb k b n s ls A c l)
    (hx : RepT wr (fun b => b < w.heap.size) (.agg #[c0, c1, c2, c3, c4, c5]) x) (hk : kq.size ≤ 140737488351232) (hbig : (l.length + 1) * 104 ≤ 140737488355328) :
    ∃ (l2 : List (ByteArray × T)) (A' : Option Addr) (c' : Nat) (w3 : World), Hid (l2 = l ++ [(kq, x)]) ∧
      (Builtin.append_ #[23, 23] 23 #[.slice A l.length c, .slice (some ⟨wr.heap.size, 0, none⟩) 1 1]).run Try.prog (wr.alloc (.cells #[.string kq, c0, c1, c2, c3, c4, c5] 38)).drew = .ok (.slice A' l2.length c') w3 ∧
      Blk w3 (w.heap.size + 1 + 1) 25 #[k, b, n, s, ls, .slice A l.length c] ∧ DInv w (w3.setCell ⟨w.heap.size + 1 + 1, 5, none⟩ (.slice A' l2.length c')) vb k b n s ls A' c' l2 := by
  obtain ⟨h1, h2, h3, hb, ho⟩ := h
  have hl := h3.lt
  obtain ⟨l2, A', c', w3, e, hr, ho3, hb3⟩ := pair_append (wr := wr.drew) (ho.keep (Below.drew (Below.refl _ _))) (hx.keep (Below.drew (Below.refl _ _))) hk hbig (show w.heap.size + 1 + 1 + 1 ≤ wr.heap.size by omega) (by omega)
  have kp : ∀ {g ty cs}, Blk wr g ty cs → g < w.heap.size + 1 + 1 + 1 → Blk w3 g ty cs := fun hh hg => hh.drew.below hb3 hg
  have hbw : Below w.heap.size w w3 := hb.drew.trans (hb3.mono (by omega))
  refine ⟨l2, A', c', w3, e, hr, kp h3 (by omega), (kp h1 (by omega)).far (show w.heap.size ≠ w.heap.size + 1 + 1 by omega) _, (kp h2 (by omega)).far (show w.heap.size + 1 ≠ w.heap.size + 1 + 1 by omega) _, (kp h3 (by omega)).set_ 5 _, hbw.setCell (show w.heap.size ≤ w.heap.size + 1 + 1 by omega) _, ?_⟩
  exact ho3.far _ (fun g hg => by have := (ho3.own g hg).1; show g ≠ w.heap.size + 1 + 1; omega) (fun hh => by have : w.heap.size + 1 + 1 < w.heap.size := hh; omega)

end Go.Proofs.Ythkkmnmejciomaa
