/- Texts as lists of bytes: what every walk over bytes needs. -/
import Derived.Test.YtdgeegfoocoohaaDoorRows
import Derived.Test.YtdgeegfoocoohaaDoorMem
import Derived.BigQuiet
import Derived.Deep.DrawnRows
import Derived.Lib.SlTrimSet
import Derived.Lib.IndexBytes
namespace Go.Proofs.YtdgeegfoocoohaaDoor

theorem byte_list {s : ByteArray} {k : Nat} (h : k < s.size) : s.data.toList.drop k = s[k] :: s.data.toList.drop (k + 1) := by
  have hl : k < s.data.toList.length := by simpa using h
  rw [List.drop_eq_getElem_cons hl]; rfl
theorem drop_end {s : ByteArray} {k : Nat} (h : s.size ≤ k) : s.data.toList.drop k = [] := List.drop_eq_nil_of_le (by simpa using h)
theorem size_list (v : ByteArray) : v.size = v.data.toList.length := by simp
theorem app_list (a b : ByteArray) : (a ++ b).data.toList = a.data.toList ++ b.data.toList := by simp
theorem take_byte {s : ByteArray} {k : Nat} (h : k < s.size) : s.data.toList.take (k + 1) = s.data.toList.take k ++ [s[k]] := by
  have hl : k < s.data.toList.length := by simpa using h
  rw [List.take_succ_eq_append_getElem hl]; rfl
theorem take_all (s : ByteArray) : s.data.toList.take s.size = s.data.toList := by rw [size_list, List.take_length]
theorem extract_list (s : ByteArray) (a b : Nat) : (s.extract a b).data.toList = (s.data.toList.drop a).take (b - a) := Lib.extract_data s a b
theorem one_byte {s : ByteArray} {k : Nat} (h : k < s.size) : (s.extract k (k + 1)).data.toList = [s[k]] := by
  rw [extract_list, byte_list h]; simp
theorem tail_list {s : ByteArray} {k : Nat} : (s.extract k s.size).data.toList = s.data.toList.drop k := Lib.extract_to_end s k
theorem list_ext {a b : ByteArray} (h : a.data.toList = b.data.toList) : a = b := by
  apply ByteArray.ext; apply Array.ext'; exact h
theorem get_list {s : ByteArray} {k : Nat} (h : k < s.size) : s.data.toList[k]? = some s[k] := by
  have hl : k < s.data.toList.length := by simpa using h
  rw [List.getElem?_eq_getElem hl]; rfl
/-- A byte that is, or isn't, a number: in the walk's own words. -/
theorem u8_eq {a : UInt8} {n : Nat} (hn : n < 256) : ((a.toNat : Int) == (n : Int)) = (a == UInt8.ofNat n) := by
  by_cases h : a = UInt8.ofNat n
  · subst h; simp; omega
  · have h1 : (a.toNat : Int) ≠ n := fun e => h (by apply UInt8.toNat_inj.1; rw [UInt8.toNat_ofNat']; omega)
    rw [beq_eq_false_iff_ne.2 h1, beq_eq_false_iff_ne.2 h]
end Go.Proofs.YtdgeegfoocoohaaDoor
