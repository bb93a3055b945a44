/- A builder of one's own: its contracts in short words. -/
import Derived.Test.YtjnbjehcmckdeaaDoorStr
import Derived.Test.YtjnbjehcmckdeaaDoorShelf
import Derived.Shelf.Strings.BuilderK
namespace Go.Proofs.YtjnbjehcmckdeaaDoor
open Go.RowKit

/-- The library's numbering in this dump (two of its types stand in no body here: the region that would name them is one the loader refuses). -/
def lb_ren : Go.Shelf.Ren := ⟨fun | 166 => 89 | 167 => 88 | 240 => 119 | 276 => 144 | n => n, fun | 0 => 0 | 3 => 3 | 4 => 4 | 5 => 5 | 9 => 9 | 20 => 20 | 37 => 55 | 70 => 113 | 72 => 115 | 75 => 102 | 80 => 119 | 164 => 152 | n => n, fun | n => n⟩
theorem lb240 : Go.Proofs.Lays.n240 Tryd.prog lb_ren := {
  mixed := by kernel_rfl
  f240 := Tryd.func119.trans (congrArg some (by kernel_rfl))
  f276 := Tryd.func144.trans (congrArg some (by kernel_rfl))
  t0 := Tryd.underlying0
  a0 := Tryd.isAgg0
  z0 := Tryd.sizeOf0
  v0 := Tryd.zeroValue0
  t4 := Tryd.underlying4
  a4 := Tryd.isAgg4
  z4 := Tryd.sizeOf4
  v4 := Tryd.zeroValue4
  t9 := Tryd.underlying9
  a9 := Tryd.isAgg9
  z9 := Tryd.sizeOf9
  v9 := Tryd.zeroValue9
  t20 := Tryd.underlying20
  a20 := Tryd.isAgg20
  z20 := Tryd.sizeOf20
  v20 := Tryd.zeroValue20
  t70 := Tryd.underlying113
  a70 := Tryd.isAgg113
  z70 := Tryd.sizeOf113
  v70 := Tryd.zeroValue113
  t72 := Tryd.underlying115
  a72 := Tryd.isAgg115
  z72 := Tryd.sizeOf115
  v72 := Tryd.zeroValue115
  t164 := Tryd.underlying152
  a164 := Tryd.isAgg152
  z164 := Tryd.sizeOf152
  v164 := Tryd.zeroValue152 }
theorem lb167 : Go.Proofs.Lays.n167 Tryd.prog lb_ren := { lb240 with
  f167 := Tryd.func88.trans (congrArg some (by kernel_rfl))
  t5 := Tryd.underlying5
  a5 := Tryd.isAgg5
  z5 := Tryd.sizeOf5
  v5 := Tryd.zeroValue5
  t37 := Tryd.underlying55
  a37 := Tryd.isAgg55
  z37 := Tryd.sizeOf55
  v37 := Tryd.zeroValue55
  t75 := Tryd.underlying102
  a75 := Tryd.isAgg102
  z75 := Tryd.sizeOf102
  v75 := Tryd.zeroValue102 }
theorem lb166 : Go.Proofs.Lays.n166 Tryd.prog lb_ren := { lb240 with
  f166 := Tryd.func89.trans (congrArg some (by kernel_rfl))
  t3 := Tryd.underlying3
  a3 := Tryd.isAgg3
  z3 := Tryd.sizeOf3
  v3 := Tryd.zeroValue3
  t37 := Tryd.underlying55
  a37 := Tryd.isAgg55
  z37 := Tryd.sizeOf55
  v37 := Tryd.zeroValue55
  t75 := Tryd.underlying102
  a75 := Tryd.isAgg102
  z75 := Tryd.sizeOf102
  v75 := Tryd.zeroValue102 }
theorem lbX : Builder.Extra Tryd.prog lb_ren := {
  sizeBuilder := by kernel_rfl
  liesBuilder := by kernel_rfl
  t5 := Tryd.underlying5
  a5 := Tryd.isAgg5
  z5 := Tryd.sizeOf5
  v5 := Tryd.zeroValue5
  infoByte := by kernel_rfl
  cellsByte := by kernel_rfl
  sizeByte := by kernel_rfl
  neB5 := by decide }

/-- A builder at block b that holds these bytes; all of it stands at b and above. -/
def Bld (b : Nat) (l : List UInt8) (w : World) : Prop := Lib.IsBuilderF 115 5 b b (Lib.byteCells l) w
theorem Bld.new (w : World) : Bld w.heap.size [] (w.alloc (.cells #[.pointer none, .slice none 0 0] 115)) := Lib.IsBuilderF.of (Lib.fresh_isBuilder _ _ w)
theorem byteCells_snoc (l : List UInt8) (c : UInt8) : Lib.byteCells (l ++ [c]) = Lib.byteCells l ++ [.int .u8 c.toNat] := by simp [Lib.byteCells]
theorem byteCells_app (l : List UInt8) (s : ByteArray) : Lib.byteCells (l ++ s.data.toList) = Lib.byteCells l ++ Lib.strCells s := by simp [Lib.byteCells, Lib.strCells]
theorem byteCells_len (l : List UInt8) : (Lib.byteCells l).length = l.length := Lib.byteCells_length l
theorem wbyte {b : Nat} {l : List UInt8} {c : UInt8} {n : Int} {w : World} (h : Bld b l w) (hl : l.length ≤ 100000000) (hb : b ≤ w.heap.size) (hn : n = c.toNat) :
    Calls Tryd.prog 88 #[.pointer (some ⟨b, 0, none⟩), .int .u8 n] w fun e w' => e = .returned .nilIface ∧ Bld b (l ++ [c]) w' ∧ Below b w w' := by
  refine (Any.Builder_WriteByte_k lb167 lbX b b _ n w h (by rw [byteCells_len]; omega) hb).mono ?_
  rintro e w' ⟨rfl, h1, h2, -⟩
  exact ⟨rfl, .inr (by rw [byteCells_snoc, ← hn]; exact h1), h2⟩
theorem wstr {b : Nat} {l : List UInt8} {s : ByteArray} {w : World} (h : Bld b l w) (hl : l.length ≤ 100000000) (hs : s.size ≤ 100000000) (hb : b ≤ w.heap.size) :
    Calls Tryd.prog 89 #[.pointer (some ⟨b, 0, none⟩), .string s] w fun e w' => e = .returned (.tuple #[.int .i64 s.size, .nilIface]) ∧ Bld b (l ++ s.data.toList) w' ∧ Below b w w' := by
  refine (Any.Builder_WriteString_k lb166 lbX b b _ s w h (by rw [byteCells_len]; omega) hb).mono ?_
  rintro e w' ⟨rfl, h1, h2, -⟩
  exact ⟨rfl, .inr (by rw [byteCells_app]; exact h1), h2⟩
theorem bstr {b : Nat} {l : List UInt8} {w : World} (h : Bld b l w) (hb : b ≤ w.heap.size) :
    Calls Tryd.prog 90 #[.pointer (some ⟨b, 0, none⟩)] w fun e w' => e = .returned (.string ⟨l.toArray⟩) ∧ Bld b l w' ∧ Below b w w' := by
  refine (Tryd.Builder_String_any_k b b l w h hb).mono ?_
  rintro e w' ⟨rfl, h1, h2, -⟩
  exact ⟨rfl, h1, h2⟩
end Go.Proofs.YtjnbjehcmckdeaaDoor
