/- A value that is made in a box of the call's own, and returned at last. -/
import Derived.Test.YtgbbojnigicnoaaDoorRfPD
import Derived.Test.YtgbbojnigicnoaaDoorNeat
namespace Go.Proofs.YtgbbojnigicnoaaDoor
open Go.RowKit

/-- How things stand: R is the result's box, G the value's box; what the value leads to lies from B on, and not in G. -/
structure OutInv (w wr : World) (B G R : Nat) (M : T) (la : Option Addr) (lc : Nat) (ma : Option Addr) (mc : Nat) : Prop where
  res : Blk wr R 25 #[.int .i64 0, .bool false, .int .i64 0, .string ⟨#[]⟩, .slice none 0 0, .slice none 0 0]
  box : Blk wr G 25 #[.int .i64 M.kind, .bool M.bool, .int .i64 M.int, .string M.str, .slice la M.list.length lc, .slice ma M.map.length mc]
  rep : RepT wr (fun b => B ≤ b ∧ b ≠ G) (.agg #[.int .i64 M.kind, .bool M.bool, .int .i64 M.int, .string M.str, .slice la M.list.length lc, .slice ma M.map.length mc]) M
  bel : Below w.heap.size w wr
  low : w.heap.size ≤ R
  mid : R < B
  top : B ≤ G
namespace OutInv
variable {w wr w3 : World} {B G R : Nat} {M M' : T} {la la' : Option Addr} {lc lc' : Nat} {ma ma' : Option Addr} {mc mc' : Nat}
theorem keep (h : OutInv w wr B G R M la lc ma mc) (hb : Below wr.heap.size wr w3) : OutInv w w3 B G R M la lc ma mc :=
  ⟨h.res.keep hb, h.box.keep hb, h.rep.keep hb, Below.next h.bel hb, h.low, h.mid, h.top⟩
theorem any (h : OutInv w wr B G R M la lc ma mc) : RepT wr (fun _ => True) (.agg #[.int .i64 M.kind, .bool M.bool, .int .i64 M.int, .string M.str, .slice la M.list.length lc, .slice ma M.map.length mc]) M := h.rep.weak fun _ _ _ => trivial
/-- Behind the store of a new value. -/
theorem put (h : OutInv w wr B G R M la lc ma mc) (hb : Below wr.heap.size wr w3) (hr : RepT w3 (fun b => wr.heap.size ≤ b) (.agg #[.int .i64 M'.kind, .bool M'.bool, .int .i64 M'.int, .string M'.str, .slice la' M'.list.length lc', .slice ma' M'.map.length mc']) M') :
    OutInv w (set6 w3 G 0 (.int .i64 M'.kind) (.bool M'.bool) (.int .i64 M'.int) (.string M'.str) (.slice la' M'.list.length lc') (.slice ma' M'.map.length mc')) B G R M' la' lc' ma' mc' := by
  have k := h.keep hb
  have h1 := h.box.lt
  have h2 := h.mid
  have h3 := h.top
  have h4 := h.low
  refine ⟨(set6_heap (by omega)).trans k.res, (((((k.box.set_ 0 _).set_ 1 _).set_ 2 _).set_ 3 _).set_ 4 _).set_ 5 _, ?_, set6_below k.bel (by omega), h.low, h.mid, h.top⟩
  exact hr.mono (fun b (hb : wr.heap.size ≤ b) _ => ⟨by omega, by omega⟩) fun b o (hb : wr.heap.size ≤ b) _ => World.cell?_of_block (w := w3) (set6_heap (show b ≠ G by omega))
/-- Behind the store into the result's box. -/
theorem done (h : OutInv w wr B G R M la lc ma mc) :
    Blk (set6 wr R 0 (.int .i64 M.kind) (.bool M.bool) (.int .i64 M.int) (.string M.str) (.slice la M.list.length lc) (.slice ma M.map.length mc)) R 25 #[.int .i64 M.kind, .bool M.bool, .int .i64 M.int, .string M.str, .slice la M.list.length lc, .slice ma M.map.length mc] ∧
    NewPost w M (.returned (.agg #[.int .i64 M.kind, .bool M.bool, .int .i64 M.int, .string M.str, .slice la M.list.length lc, .slice ma M.map.length mc])) (set6 wr R 0 (.int .i64 M.kind) (.bool M.bool) (.int .i64 M.int) (.string M.str) (.slice la M.list.length lc) (.slice ma M.map.length mc)) := by
  have h2 := h.mid
  have h4 := h.low
  refine ⟨(((((h.res.set_ 0 _).set_ 1 _).set_ 2 _).set_ 3 _).set_ 4 _).set_ 5 _, _, rfl, ?_, set6_below h.bel h.low⟩
  exact h.rep.mono (fun b (hb : B ≤ b ∧ b ≠ G) _ => by show w.heap.size ≤ b; omega) fun b o (hb : B ≤ b ∧ b ≠ G) _ => World.cell?_of_block (w := wr) (set6_heap (show b ≠ R by omega))
/-- A value that is made, boxed. -/
theorem start {w0 w1 : World} (h0 : Below w.heap.size w w0) (hres : Blk w0 R 25 #[.int .i64 0, .bool false, .int .i64 0, .string ⟨#[]⟩, .slice none 0 0, .slice none 0 0]) (low : w.heap.size ≤ R) (mid : R < B) (hB : B ≤ w0.heap.size) (hb : Below w0.heap.size w0 w1) (hr : RepT w1 (fun b => w0.heap.size ≤ b) (.agg #[.int .i64 M.kind, .bool M.bool, .int .i64 M.int, .string M.str, .slice la M.list.length lc, .slice ma M.map.length mc]) M) :
    OutInv w (w1.alloc (.cells #[.int .i64 M.kind, .bool M.bool, .int .i64 M.int, .string M.str, .slice la M.list.length lc, .slice ma M.map.length mc] 25)) B w1.heap.size R M la lc ma mc := by
  have hn : Below w1.heap.size w1 (w1.alloc (.cells #[.int .i64 M.kind, .bool M.bool, .int .i64 M.int, .string M.str, .slice la M.list.length lc, .slice ma M.map.length mc] 25)) := Below.new _ _
  have := hb.size
  exact ⟨(hres.keep hb).keep hn, Blk.new _ _ _, (hr.mono (S' := fun b => B ≤ b ∧ b ≠ w1.heap.size) (fun b (h : w0.heap.size ≤ b) (h2 : b < w1.heap.size) => ⟨by omega, by omega⟩) (fun _ _ _ _ => rfl)).keep hn, Below.next (Below.next h0 hb) hn, low, mid, by omega⟩
end OutInv
end Go.Proofs.YtgbbojnigicnoaaDoor
