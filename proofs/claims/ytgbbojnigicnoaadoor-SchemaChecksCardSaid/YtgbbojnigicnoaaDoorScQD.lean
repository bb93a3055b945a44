/- Several texts as one. -/
import Derived.Test.YtgbbojnigicnoaaDoorRows
import Derived.Test.YtgbbojnigicnoaaDoorMem
import Derived.BigQuiet
import Derived.Deep.DrawnRows
import Derived.Lib.SlTrimSet
import Derived.Lib.IndexBytes
import Derived.Test.YtgbbojnigicnoaaDoorShelf
import Derived.Shelf.Strings.BuilderK
import Derived.Test.YtgbbojnigicnoaaDoorTrPL
import Derived.Deep.RegionWith
import Derived.Test.YtgbbojnigicnoaaDoorGen
/- Texts as lists of bytes: what every walk over bytes needs. -/
namespace Go.Proofs.YtgbbojnigicnoaaDoor

theorem byte_list {s : ByteArray} {k : Nat} (h : k < s.size) : s.data.toList.drop k = s[k] :: s.data.toList.drop (k + 1) := by
  have hl : k < s.data.toList.length := by simpa using h
  rw [List.drop_eq_getElem_cons hl]; rfl
theorem drop_end {s : ByteArray} {k : Nat} (h : s.size ≤ k) : s.data.toList.drop k = [] := List.drop_eq_nil_of_le (by simpa using h)
theorem size_list (v : ByteArray) : v.size = v.data.toList.length := by simp
theorem app_list (a b : ByteArray) : (a ++ b).data.toList = a.data.toList ++ b.data.toList := by simp
theorem take_byte {s : ByteArray} {k : Nat} (h : k < s.size) : s.data.toList.take (k + 1) = s.data.toList.take k ++ [s[k]] := by
  have hl : k < s.data.toList.length := by simpa using h
  rw [List.take_succ_eq_append_getElem hl]; rfl
theorem take_all (s : ByteArray) : s.data.toList.take s.size = s.data.toList := by rw [size_list, List.take_length]
theorem extract_list (s : ByteArray) (a b : Nat) : (s.extract a b).data.toList = (s.data.toList.drop a).take (b - a) := Lib.extract_data s a b
theorem one_byte {s : ByteArray} {k : Nat} (h : k < s.size) : (s.extract k (k + 1)).data.toList = [s[k]] := by
  rw [extract_list, byte_list h]; simp
theorem tail_list {s : ByteArray} {k : Nat} : (s.extract k s.size).data.toList = s.data.toList.drop k := Lib.extract_to_end s k
theorem list_ext {a b : ByteArray} (h : a.data.toList = b.data.toList) : a = b := by
  apply ByteArray.ext; apply Array.ext'; exact h
theorem get_list {s : ByteArray} {k : Nat} (h : k < s.size) : s.data.toList[k]? = some s[k] := by
  have hl : k < s.data.toList.length := by simpa using h
  rw [List.getElem?_eq_getElem hl]; rfl
/-- A byte that is, or isn't, a number: in the walk's own words. -/
theorem u8_eq {a : UInt8} {n : Nat} (hn : n < 256) : ((a.toNat : Int) == (n : Int)) = (a == UInt8.ofNat n) := by
  by_cases h : a = UInt8.ofNat n
  · subst h; simp; omega
  · have h1 : (a.toNat : Int) ≠ n := fun e => h (by apply UInt8.toNat_inj.1; rw [UInt8.toNat_ofNat']; omega)
    rw [beq_eq_false_iff_ne.2 h1, beq_eq_false_iff_ne.2 h]
end Go.Proofs.YtgbbojnigicnoaaDoor

/- A builder of one's own: its contracts in short words. -/
namespace Go.Proofs.YtgbbojnigicnoaaDoor
open Go.RowKit

theorem byteCells_snoc (l : List UInt8) (c : UInt8) : Lib.byteCells (l ++ [c]) = Lib.byteCells l ++ [.int .u8 c.toNat] := by simp [Lib.byteCells]
theorem byteCells_app (l : List UInt8) (s : ByteArray) : Lib.byteCells (l ++ s.data.toList) = Lib.byteCells l ++ Lib.strCells s := by simp [Lib.byteCells, Lib.strCells]
theorem byteCells_len (l : List UInt8) : (Lib.byteCells l).length = l.length := Lib.byteCells_length l
end Go.Proofs.YtgbbojnigicnoaaDoor

/- mizzenref04.Quote and Single. -/
namespace Go.Proofs.YtgbbojnigicnoaaDoor
open Go.RowKit
attribute [local go_sem ↓] Go.wp_at_zero Go.wp_at_succ

theorem escL_snoc (l : List UInt8) (c : UInt8) : escL (l ++ [c]) = escL l ++ esc1 c := by simp [escL]
theorem escL_len : ∀ (l : List UInt8), (escL l).length ≤ 2 * l.length
  | [] => by simp [escL]
  | c :: l => by
    have ih := escL_len l
    have e : escL (c :: l) = esc1 c ++ escL l := by simp [escL]
    have h1 : (esc1 c).length ≤ 2 := by unfold esc1; repeat (first | (split) | simp)
    rw [e, List.length_append, List.length_cons]; omega
theorem sescL_snoc (l : List UInt8) (c : UInt8) : sescL (l ++ [c]) = sescL l ++ sesc1 c := by simp [sescL]
theorem sescL_len : ∀ (l : List UInt8), (sescL l).length ≤ 2 * l.length
  | [] => by simp [sescL]
  | c :: l => by
    have ih := sescL_len l
    have e : sescL (c :: l) = sesc1 c ++ sescL l := by simp [sescL]
    have h1 : (sesc1 c).length ≤ 2 := by unfold sesc1; split <;> simp
    rw [e, List.length_append, List.length_cons]; omega
end Go.Proofs.YtgbbojnigicnoaaDoor

/- scalar.Quote, double, single, Unquote. -/
namespace Go.Proofs.YtgbbojnigicnoaaDoor
open Go.RowKit
attribute [local go_sem ↓] Go.wp_at_zero Go.wp_at_succ

def FreshPost (w : World) (l : List UInt8) (e : Ending) (w' : World) : Prop := ∃ v : ByteArray, e = .returned (.string v) ∧ v.data.toList = l ∧ Below w.heap.size w w'
end Go.Proofs.YtgbbojnigicnoaaDoor

/- mizzenref04.Digits, Print, Text. -/
namespace Go.Proofs.YtgbbojnigicnoaaDoor
open Go.RowKit
attribute [local go_sem ↓] Go.wp_at_zero Go.wp_at_succ

theorem dec_len : ∀ (k u : Nat), u < 10 ^ (k + 1) → (Lib.decDigits u).length ≤ k + 1
  | 0, u, h => by
    have h1 : u < 10 := by omega
    rw [Lib.decDigits, dif_pos h1]; simp
  | k + 1, u, h => by
    rw [Lib.decDigits]
    split
    · simp
    · have := dec_len k (u / 10) (by rw [Nat.pow_succ] at h; omega)
      rw [List.length_append]; simp only [List.length_cons, List.length_nil]; omega
/-- The digits that are still to be written. -/
def restD (m : Nat) (first : Bool) : List UInt8 := if m = 0 ∧ first = false then [] else Lib.decDigits m
theorem restD_step (m : Nat) (first : Bool) (h : m ≠ 0 ∨ first = true) : restD m first = restD (m / 10) false ++ [UInt8.ofNat (48 + m % 10)] := by
  have e : restD m first = Lib.decDigits m := by
    unfold restD
    rw [if_neg]
    rintro ⟨h1, h2⟩
    rcases h with h | h
    · exact h h1
    · rw [h] at h2; cases h2
  rw [e, Lib.decDigits, restD]
  split
  · next h10 =>
    have h1 : m / 10 = 0 := by omega
    rw [if_pos ⟨h1, rfl⟩]; simp; congr 2; omega
  · next h10 =>
    rw [if_neg]
    rintro ⟨h1, -⟩
    omega
theorem convD (d : Nat) (hd : d < 10) (W : World) : (convert 71 9 (.slice (some ⟨W.heap.size, 0, none⟩) 1 1)).run Tryd.prog (W.alloc (.cells #[.int .u8 (48 + (d : Int))] 5)) = .ok (.string ⟨#[UInt8.ofNat (48 + d)]⟩) (W.alloc (.cells #[.int .u8 (48 + (d : Int))] 5)) := by
  have := run_convert_bytes_arg (P := Tryd.prog) (W.alloc (.cells #[.int .u8 (48 + (d : Int))] 5)) 71 5 (by kernel_rfl) (by kernel_rfl) W.heap.size 0 1 1 [48 + (d : Int)] rfl (fun i hi => by
    obtain rfl : i = 0 := by omega
    exact (Blk.new W 5 #[.int .u8 (48 + (d : Int))]).cell 0) 9 (by kernel_rfl)
  rw [this]
  have e : strOfNums [48 + (d : Int)] = ⟨#[UInt8.ofNat (48 + d)]⟩ := by
    show (⟨#[UInt8.ofNat (48 + (d : Int)).toNat]⟩ : ByteArray) = ⟨#[UInt8.ofNat (48 + d)]⟩
    rw [show (48 + (d : Int)).toNat = 48 + d by omega]
  rw [e]
theorem itoa_neg {n : Int} (h : n < 0) : Lib.itoa n = 45 :: Lib.decDigits n.natAbs := by unfold Lib.itoa; rw [if_pos h]
theorem itoa_pos {n : Int} (h : ¬ n < 0) : Lib.itoa n = Lib.decDigits n.natAbs := by unfold Lib.itoa; rw [if_neg h, show n.toNat = n.natAbs by omega]
set_option maxRecDepth 100000 in
set_option maxHeartbeats 8000000 in
theorem rdigits (n0 : Int) (hn : i64ok n0) (w : World) : Calls Tryd.prog 24 #[.int .i64 n0] w (FreshPost w (Lib.itoa n0)) := by
  unfold i64ok at hn
  have HLEN := Lib.hid (dec_len 18 n0.natAbs (by simp only [Nat.reduceAdd, Nat.reducePow]; omega))
  have HI := Lib.hid (⟨fun h => itoa_neg (n := n0) h, fun h => itoa_pos (n := n0) h⟩ : (n0 < 0 → _) ∧ (¬ n0 < 0 → _))
  go_enter Tryd.func24, Tryd.ntmps24
  go_wp2_with fail
  go_loopw [0, 3] (fun x0 x3 wr => ∃ (n : Int) (o : ByteArray) (f : Bool), x0 = .int .i64 n ∧ x3 = .string o ∧ i64ok n ∧ o.size ≤ 20 ∧ Hid (restD n.natAbs f ++ o.data.toList = Lib.decDigits n0.natAbs) ∧ Hid (n.natAbs ≠ 0 ∨ f = true) ∧ Hid (Below w.heap.size w wr)) (fun x0 _ _ => (intOf x0).natAbs)
  case atStart => exact ⟨n0, ⟨#[]⟩, true, rfl, rfl, hn, by decide, Lib.hid (by simp [restD]), Lib.hid (.inr rfl), Lib.hid (Below.refl _ _)⟩
  case round =>
    obtain ⟨n, o, f, rfl, rfl, hn1, ho, HD, HF, hb⟩ := hrel
    unfold i64ok at hn1
    obtain ⟨d, hd⟩ : ∃ d, d = n.natAbs % 10 := ⟨_, rfl⟩
    obtain ⟨t, ht⟩ : ∃ t, n.tdiv 10 = t := ⟨_, rfl⟩
    have hta : t.natAbs = n.natAbs / 10 := by rw [← ht, Int.natAbs_tdiv]; rfl
    have hd9 : d < 10 := by omega
    obtain ⟨db, hdb⟩ : ∃ db : ByteArray, db = ⟨#[UInt8.ofNat (48 + d)]⟩ := ⟨_, rfl⟩
    have hti : i64ok t := by unfold i64ok; omega
    have ht1 : -9223372036854775808 ≤ t := by omega
    have ht2 : t ≤ 9223372036854775807 := by omega
    have HTA := Lib.hid hta
    have HTI := Lib.hid hti
    have HNX := Lib.hid (show restD t.natAbs false ++ (db ++ o : ByteArray).data.toList = Lib.decDigits n0.natAbs by
      rw [← HD.out, restD_step _ _ HF.out, hta, app_list, hdb, hd, List.append_assoc])
    have HNO := Lib.hid (show (db ++ o : ByteArray).size ≤ 19 by
      have h1 := congrArg List.length HNX.out
      rw [List.length_append, ← size_list] at h1
      have := HLEN.out
      omega)
    have hu : (48 + (d : Int)) % 256 = 48 + d := by omega
    have hcv : ∀ W : World, (convert 71 9 (.slice (some ⟨W.heap.size, 0, none⟩) 1 1)).run Tryd.prog (W.alloc (.cells #[.int .u8 (48 + (d : Int))] 5)) = .ok (.string db) (W.alloc (.cells #[.int .u8 (48 + (d : Int))] 5)) := fun W => hdb ▸ convD d hd9 W
    have hsg : (n.tmod 10 = (d : Int)) ∨ (∃ r, n.tmod 10 = r ∧ r < 0 ∧ -10 < r ∧ -r = (d : Int)) := by
      by_cases h : n < 0
      · by_cases h0 : d = 0
        · left
          have h1 : n.tmod 10 = -((-n).tmod 10) := by rw [Int.neg_tmod]; omega
          have h2 : (-n).tmod 10 = (-n) % 10 := Int.tmod_eq_emod_of_nonneg (by omega)
          omega
        · right
          have h1 : n.tmod 10 = -((-n).tmod 10) := by rw [Int.neg_tmod]; omega
          have h2 : (-n).tmod 10 = (-n) % 10 := Int.tmod_eq_emod_of_nonneg (by omega)
          exact ⟨_, rfl, by omega, by omega, by omega⟩
      · left
        rw [Int.tmod_eq_emod_of_nonneg (by omega)]; omega
    have htz : (t == 0) = true ∨ (t == 0) = false := by cases t == 0 <;> simp
    clear hd hta hti HD hdb
    have hdo : db.size + o.size ≤ 19 := by have := HNO.out; rwa [ByteArray.size_append] at this
    have hnz : (n0 < 0) ∨ (0 ≤ n0) := by omega
    rcases hsg with hr | ⟨r, hr, hr1, hr2, hr3⟩
    all_goals
      rcases htz with hz | hz
      · have HZ := Lib.hid (show (db ++ o : ByteArray).data.toList = Lib.decDigits n0.natAbs by
          rw [← HNX.out, show t.natAbs = 0 by rw [beq_iff_eq] at hz; omega]; simp [restD])
        rcases hnz with hneg | hneg
        · have HE := Lib.hid (HI.out.1 hneg)
          go_wp2_with fail
          go_ret
          exact ⟨_, rfl, by rw [HE.out, app_list, HZ.out]; rfl, (Below.next hb.out (Below.new _ _))⟩
        · have HE := Lib.hid (HI.out.2 (by omega))
          go_wp2_with fail
          go_ret
          exact ⟨_, rfl, by rw [HE.out, HZ.out], (Below.next hb.out (Below.new _ _))⟩
      · have HZ := Lib.hid (show t.natAbs ≠ 0 by rw [beq_eq_false_iff_ne] at hz; omega)
        go_wp2_with fail
        go_round
        case rel => exact ⟨t, _, false, rfl, rfl, HTI.out, by have := HNO.out; omega, HNX, Lib.hid (.inl HZ.out), Lib.hid (Below.next hb.out (Below.new _ _))⟩
        case measure => have h1 := HTA.out; have h2 := HZ.out; simp [intOf]; omega
end Go.Proofs.YtgbbojnigicnoaaDoor

