/- slices.Insert at pairs, into a row of the call's own: after the library's worked text at strings (SlicesInsert, SlicesInsertGrow), turned to elements of more than one cell. -/
import Derived.Test.YtdgeegfoocoohaaDoorRows
import Derived.Test.YtdgeegfoocoohaaDoorMem
import Derived.Test.YtdgeegfoocoohaaDoorSClone
import Derived.Maps.AppendAt
import Derived.OwnWalk
import Derived.Shelf.Spec.SlicesInsertGrow
namespace Go.Proofs.YtdgeegfoocoohaaDoor
open Go.RowKit Go.Lib

section
variable {P : Program}
/-- copy at elements of sz cells. -/
theorem run_copy_wide (w : World) (dT sT ty elem : TypeId) (sz b o dLen dCap : Nat) (a : Addr) (sLen sCap k : Nat) (cs : List Value)
    (hu : P.underlying dT = some (.slice elem)) (hs : (P.info? elem).map (·.size) = some sz) (hk : Nat.min sLen dLen = k) (hn : cs.length = k * sz)
    (hsrc : ∀ j v, cs[j]? = some v → w.cell? (a.add j) = some v) (hc : ∀ j, j < cs.length → (w.cell? ⟨b, o + j, none⟩).isSome = true) (hf : ∀ j, j < cs.length → w.frozen? ⟨b, o + j, none⟩ = false) (h1 : ∀ v ∈ cs, v.oneCell' = true) :
    (Builtin.copy_ #[dT, sT] ty #[.slice (some ⟨b, o, none⟩) dLen dCap, .slice (some a) sLen sCap]).run P w = .ok (goInt k) (w.setCells b o cs) := by
  have hl := run_loadCells_list (P := P) w a cs hsrc
  have hst := run_storeCells_cells (P := P) b o cs 0 w (by simpa using hc) (by simpa using hf) h1
  cases hq : P.info? elem with
  | none => simp [hq] at hs
  | some i =>
    have hi : i.size = sz := by simpa [hq] using hs
    simp [Builtin.copy_, run_underlying hu, Builtin.lenOf, Builtin.firstCells, sizeOf, typeInfo, hq, hi, hk, ← hn, hl, hst]
end

/-- Cells laid into a block that is known whole. -/
theorem Blk.setCells {g ty : Nat} : ∀ (vs : List Value) (o : Nat) {w : World} {cur : Array Value}, Blk w g ty cur → o + vs.length ≤ cur.size →
    Blk (w.setCells g o vs) g ty (cur.toList.take o ++ vs ++ cur.toList.drop (o + vs.length)).toArray
  | [], o, w, cur, h, _ => by simpa [World.setCells] using h
  | v :: r, o, w, cur, h, hl => by
    have h1 := Blk.setCells r (o + 1) (h.set_ o v) (by simp at hl ⊢; omega)
    have e := list_seg_step cur.toList o v r (by simp at hl ⊢; omega)
    rw [World.setCells]
    have e2 : ((cur.setIfInBounds o v).toList.take (o + 1) ++ r ++ (cur.setIfInBounds o v).toList.drop (o + 1 + r.length)) = cur.toList.take o ++ (v :: r) ++ cur.toList.drop (o + (v :: r).length) := by
      simpa [Array.toList_setIfInBounds, Nat.add_assoc] using e
    rw [← e2]
    exact h1
theorem heap_setCells (g : Nat) : ∀ (vs : List Value) (o : Nat) (w : World) (k : Nat), k ≠ g → (w.setCells g o vs).heap[k]? = w.heap[k]?
  | [], _, _, _, _ => rfl
  | v :: r, o, w, k, h => by rw [World.setCells, heap_setCells g r (o + 1) _ k h, Below.heap_setCell w _ v k h]
theorem size_setCells (g : Nat) : ∀ (vs : List Value) (o : Nat) (w : World), (w.setCells g o vs).heap.size = w.heap.size
  | [], _, _ => rfl
  | v :: r, o, w => by rw [World.setCells, size_setCells g r (o + 1) _]; simp [World.setCell]
theorem same_setCells (g : Nat) : ∀ (vs : List Value) (o : Nat) (w : World), (w.setCells g o vs).os = w.os ∧ (w.setCells g o vs).tape = w.tape ∧ (w.setCells g o vs).output = w.output
  | [], _, _ => ⟨rfl, rfl, rfl⟩
  | v :: r, o, w => by
    obtain ⟨h1, h2, h3⟩ := same_setCells g r (o + 1) (w.setCell ⟨g, o, none⟩ v)
    rw [World.setCells]
    exact ⟨h1, h2, h3⟩
theorem grown_setCells {a w : World} {row : Option Nat} {g : Nat} (h : a.grownBy w row) (hg : some g = row ∨ a.heap.size ≤ g) (o : Nat) (vs : List Value) : a.grownBy (w.setCells g o vs) row := by
  obtain ⟨h1, h2, h3⟩ := same_setCells g vs o w
  refine ⟨h1.trans h.os, h2.trans h.tape, h3.trans h.output, by rw [size_setCells]; exact h.size, fun k hk hne => ?_⟩
  rw [heap_setCells g vs o w k ?_]
  · exact h.block k hk hne
  · rintro rfl
    rcases hg with e | e
    · exact hne e
    · omega
theorem cell_setCells_far (b : Nat) (vs : List Value) (o : Nat) (w : World) {c j : Nat} (h : c ≠ b) : (w.setCells b o vs).cell? ⟨c, j, none⟩ = w.cell? ⟨c, j, none⟩ :=
  World.cell?_of_block (a := ⟨c, j, none⟩) (heap_setCells b vs o w c h)
theorem add_lit (b o j : Nat) : (⟨b, o, none⟩ : Addr).add j = ⟨b, o + j, none⟩ := by unfold Addr.add; split <;> simp_all

/-- What Insert leaves: a row of the call's own with the cells laid in. -/
def InsPost (B n m : Nat) (xs' : List Value) (v : Value) (w : World) (e : Ending) (w' : World) : Prop :=
  ∃ v', e = .returned v' ∧ w'.ownsRow B 40 7 v' (n + m) xs' ∧ w.grownBy w' v.ownBlock ∧ (v'.ownBlock = v.ownBlock ∨ v'.ownBlock = some w.heap.size)

theorem pair_size : (Tryd.prog.info? 40).map (·.size) = some 7 := by kernel_rfl
theorem pair_sizeOf (w : World) : (Go.sizeOf 40).run Tryd.prog w = .ok 7 w := by
  obtain ⟨i0, hi, hz0, hz1, hz2⟩ := info_parts sclone_p_info
  simp [sizeOf, typeInfo, hi, hz1]
theorem und_pairs : Tryd.prog.underlying 31 = some (.slice 40) := by kernel_rfl
theorem und_int : Tryd.prog.underlying 3 = some (.int .i64) := by kernel_rfl

end Go.Proofs.YtdgeegfoocoohaaDoor
