/- Texts as elements of rows. -/
import Derived.Test.YtgbbojnigicnoaaDoorOpen
import Derived.Test.YtgbbojnigicnoaaDoorGen
namespace Go.Proofs.YtgbbojnigicnoaaDoor
open Go.RowKit Go.Lib

theorem text_info : (Tryd.prog.info? 9).map (fun i => (i.zero, i.size, i.bytes)) = some (some (.string ⟨#[]⟩), 1, 16) := by kernel_rfl
def eltS : Elt ByteArray where
  ty := 9
  slt := 43
  sz := 1
  bytes := 16
  zero := .string ⟨#[]⟩
  R _ _ cs s := cs = [.string s] ∧ s.size ≤ 140737488351232
  len h := by rw [h.1]; rfl
  one h := by
    intro u hu
    rw [h.1, List.mem_singleton] at hu
    rw [hu]; rfl
  mono h _ _ := h
  pos := by decide
  hund := und_ss
  hinfo := text_info
  hzero := rfl
theorem RepS.mono {w w' : World} {S S' : Nat → Prop} {a : Option Addr} {l : List ByteArray} (h : RepS w S a l) (hS : ∀ b, S b → b < w.heap.size → S' b) (hw : ∀ b o, S b → b < w.heap.size → w'.cell? ⟨b, o, none⟩ = w.cell? ⟨b, o, none⟩) : RepS w' S' a l := fun i hi => by
  obtain ⟨b, o, e, hs, hlt, hc, hz⟩ := h i hi
  have hc2 := (hw b (o + i) hs hlt).trans hc
  exact ⟨b, o, e, hS b hs hlt, block_lt_of_cell (a := ⟨b, o + i, none⟩) hc2, hc2, hz⟩
theorem repS_of {w : World} {S : Nat → Prop} {a : Option Addr} {l : List ByteArray} (h : RepE eltS w S a l) : RepS w S a l := fun i hi => by
  obtain ⟨b, o, cs, e, hS, hc, hr⟩ := h i hi
  have h0 := hc 0 (.string l[i]) (by rw [hr.1]; rfl)
  rw [show o + i * eltS.sz + 0 = o + i by show o + i * 1 + 0 = o + i; omega] at h0
  exact ⟨b, o, e, hS, block_lt_of_cell (a := ⟨b, o + i, none⟩) h0, h0, hr.2⟩

end Go.Proofs.YtgbbojnigicnoaaDoor
