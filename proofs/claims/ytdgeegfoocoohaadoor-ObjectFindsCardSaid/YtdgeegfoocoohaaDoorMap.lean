/- tree.Map: the pairs by rising keys; of one key the last one. -/
import Derived.Test.YtdgeegfoocoohaaDoorOwnM
namespace Go.Proofs.YtdgeegfoocoohaaDoor
open Go.RowKit
attribute [local go_sem ↓] Go.wp_at_zero Go.wp_at_succ

def mkMap (m : List (ByteArray × T)) : T := .mk 5 false 0 ⟨#[]⟩ [] m
/-- How things stand in Map: the result's box, the map's box, the map's row. -/
def MapInv (w wr : World) (A : Option Addr) (c : Nat) (m : List (ByteArray × T)) : Prop :=
  Blk wr w.heap.size 33 zcells ∧ Blk wr (w.heap.size + 1) 33 #[.int .i64 5, .bool false, .int .i64 0, .string ⟨#[]⟩, .slice none 0 0, .slice A m.length c] ∧ Below w.heap.size w wr ∧ OwnM wr (w.heap.size + 2) A c m

theorem own_ne {w : World} {B : Nat} {A : Option Addr} {c k : Nat} {m : List (ByteArray × T)} (h : OwnM w B A c m) (hk : w.heap.size ≤ k) : Value.ownBlock (.slice A m.length c) ≠ some k := fun e => by
  have := (h.own k e).2
  omega

theorem map_new {w wr : World} {A : Option Addr} {c : Nat} {m : List (ByteArray × T)} (h : MapInv w wr A c m) (hm : m.length * 104 ≤ 140737488355328) :
    RepT (set6 wr w.heap.size 0 (.int .i64 5) (.bool false) (.int .i64 0) (.string ⟨#[]⟩) (.slice none 0 0) (.slice A m.length c)) (fun b => w.heap.size ≤ b) (.agg #[.int .i64 5, .bool false, .int .i64 0, .string ⟨#[]⟩, .slice none 0 0, .slice A m.length c]) (mkMap m) ∧
    Blk (set6 wr w.heap.size 0 (.int .i64 5) (.bool false) (.int .i64 0) (.string ⟨#[]⟩) (.slice none 0 0) (.slice A m.length c)) w.heap.size 33 #[.int .i64 5, .bool false, .int .i64 0, .string ⟨#[]⟩, .slice none 0 0, .slice A m.length c] ∧
    Below w.heap.size w (set6 wr w.heap.size 0 (.int .i64 5) (.bool false) (.int .i64 0) (.string ⟨#[]⟩) (.slice none 0 0) (.slice A m.length c)) := by
  obtain ⟨hb1, hb2, hbw, hown⟩ := h
  have hlen := hown.len
  refine ⟨RepT.of (t := mkMap m) (la := none) (lc := 0) (ma := A) (mc := c) ⟨(show i64ok 5 by unfold i64ok; omega), (show i64ok 0 by unfold i64ok; omega), by show ByteArray.size ⟨#[]⟩ ≤ _; simp [ByteArray.size], by simp [mkMap, T.list], hm, by simp [mkMap, T.list], hlen.1, by unfold maxLen; omega, hlen.2, fun i hi => by simp [mkMap, T.list] at hi, ?_⟩, ?_, set6_below hbw (Nat.le_refl _)⟩
  · exact RepM.mono (w := wr) (S := fun b => w.heap.size + 2 ≤ b) hown.rep (fun b (h : w.heap.size + 2 ≤ b) _ => by show w.heap.size ≤ b; omega) (fun b o (h : w.heap.size + 2 ≤ b) hlt => World.cell?_of_block (w := wr) (set6_heap (show b ≠ w.heap.size by omega)))
  · exact (((((hb1.set_ 0 _).set_ 1 _).set_ 2 _).set_ 3 _).set_ 4 _).set_ 5 _

/-- Before the new row is stored in the map's box. -/
def InsOut (w w3 : World) (A : Option Addr) (n c : Nat) (A' : Option Addr) (c' : Nat) (m' : List (ByteArray × T)) : Prop :=
  Blk w3 w.heap.size 33 zcells ∧ Blk w3 (w.heap.size + 1) 33 #[.int .i64 5, .bool false, .int .i64 0, .string ⟨#[]⟩, .slice none 0 0, .slice A n c] ∧ Below w.heap.size w w3 ∧ OwnM w3 (w.heap.size + 2) A' c' m'

theorem map_stored {w w3 : World} {A A' : Option Addr} {n c c' : Nat} {m' : List (ByteArray × T)} (h : InsOut w w3 A n c A' c' m') : MapInv w (w3.setCell ⟨w.heap.size + 1, 5, none⟩ (.slice A' m'.length c')) A' c' m' := by
  obtain ⟨g1, g2, hbw, xs, h1, h2, h3⟩ := h
  have hne : ∀ g, Value.ownBlock (.slice A' m'.length c') = some g → g ≠ w.heap.size + 1 := fun g hg => by
    have := (OwnM.own ⟨xs, h1, h2, h3⟩ g hg).1
    omega
  refine ⟨g1.far (by simp) _, g2.set_ 5 _, hbw.setCell (by simp) _, xs, ownsRow_of h1 (fun g hg => Below.heap_setCell _ _ _ g (hne g hg)), h2, fun i hi => ?_⟩
  obtain ⟨r, e, hz, hr⟩ := h3 i hi
  exact ⟨r, e, hz, hr.mono (fun b hb _ => hb) (fun b o hb hlt => World.cell?_of_block (a := ⟨b, o, none⟩) (Below.heap_setCell _ _ _ b (show b ≠ w.heap.size + 1 by have := hb.1; omega)))⟩

theorem map_set {w wr w1 w2 : World} {g c i : Nat} {m : List (ByteArray × T)} {k : ByteArray} {t : T} {c0 c1 c2 c3 c4 c5 : Value} (h : MapInv w wr (some ⟨g, 0, none⟩) c m) (hb1 : Below wr.heap.size wr w1) (hb2 : Below w1.heap.size w1 w2)
    (hr : RepT w2 (fun b => w1.heap.size ≤ b) (.agg #[c0, c1, c2, c3, c4, c5]) t) (hs : Srch m k i true) :
    MapInv w (set6 w2 g (i * 7 + 1) c0 c1 c2 c3 c4 c5) (some ⟨g, 0, none⟩) c (ins m k t) := by
  obtain ⟨g1, g2, hbw, hown⟩ := h
  have hl := g2.lt
  have h12 : Below wr.heap.size wr w2 := Below.next hb1 hb2
  have hs1 := hb1.size
  have hg := hown.own g rfl
  have hlen : (ins m k t).length = m.length := by rw [ins_found t hs]; simp
  refine ⟨(set6_heap (by omega)).trans (g1.keep h12), ?_, set6_below (hbw.trans (h12.mono hbw.size)) (by omega), own_set (hown.keep h12) hs (hr.weak (fun b (hb : w1.heap.size ≤ b) _ => ⟨by omega, by omega⟩))⟩
  rw [hlen]
  exact (set6_heap (by omega)).trans (g2.keep h12)

end Go.Proofs.YtdgeegfoocoohaaDoor
