/- scalar.number, Parse, Print, Text. -/
import Derived.Test.YtjnbjehcmckdeaaDoorScalT
import Derived.Test.YtjnbjehcmckdeaaDoorScalB
import Derived.Test.YtjnbjehcmckdeaaDoorScalD
import Derived.Test.YtjnbjehcmckdeaaDoorScalV
import Derived.Test.YtjnbjehcmckdeaaDoorMake
import Derived.Lib.AppendIntMem
namespace Go.Proofs.YtjnbjehcmckdeaaDoor
open Go.RowKit
attribute [local go_sem ↓] Go.wp_at_zero Go.wp_at_succ

theorem trim_mag (l : List UInt8) : Lib.trimPrefix l [45] = mag l := by
  cases l with
  | nil => rfl
  | cons c r =>
    by_cases h : c = 45
    · subst h; simp [Lib.trimPrefix, Lib.hasPrefix, mag, minus]
    · have h1 : ¬ (45 : UInt8) = c := fun e => h e.symm
      simp [Lib.trimPrefix, Lib.hasPrefix, mag, minus, h1, h]
theorem mag_len (l : List UInt8) : (mag l).length ≤ l.length := by unfold mag; split <;> simp
theorem ttrimp (s : ByteArray) (w : World) : Calls Tryd.prog 110 #[.string s, .string ⟨#[45]⟩] w fun e w' => e = .returned (.string ⟨(mag s.data.toList).toArray⟩) ∧ w = w' := by
  refine (Tryd.strings_TrimPrefix s ⟨#[45]⟩ w).mono ?_
  rintro e w' ⟨rfl, rfl⟩
  exact ⟨by rw [show (⟨#[45]⟩ : ByteArray).data.toList = [45] from rfl, trim_mag], rfl⟩

set_option maxRecDepth 100000 in
set_option maxHeartbeats 4000000 in
theorem tnumber (s : ByteArray) (hs : s.size ≤ 140737488355328) (w : World) : Calls Tryd.prog 74 #[.string s] w fun e w' => e = .returned (.bool (numL s.data.toList)) ∧ w = w' := by
  obtain ⟨m, hm⟩ : ∃ m : ByteArray, m = ⟨(mag s.data.toList).toArray⟩ := ⟨_, rfl⟩
  have hml : m.data.toList = mag s.data.toList := by rw [hm]
  have hms : m.size ≤ 140737488355328 := by rw [size_list, hml]; have := mag_len s.data.toList; rw [← size_list] at this; omega
  have CT := Lib.hid (show Calls Tryd.prog 110 #[.string s, .string ⟨#[45]⟩] w (fun e w' => e = .returned (.string m) ∧ w = w') from hm ▸ ttrimp s w)
  have HL := Lib.hid (show numL s.data.toList = (m.data.toList.all digitB && !m.data.toList.isEmpty) by rw [numL, hml])
  generalize numL s.data.toList = nb at HL ⊢
  clear hm hml
  go_enter Tryd.func74, Tryd.ntmps74
  go_wp2_with (go_at_call 110; refine CT.out.mono ?_; rintro e w9 ⟨rfl, rfl⟩)
  go_loop [8] (fun x8 => ∃ (q : Nat), x8 = .int .i64 q ∧ q ≤ m.size ∧ Hid ((m.data.toList.take q).all digitB = true)) (fun x8 => m.size - (intOf x8).toNat)
  case atStart => exact ⟨0, rfl, Nat.zero_le _, Lib.hid (by simp)⟩
  case round =>
    obtain ⟨q, rfl, hq, HR⟩ := hrel
    by_cases hlt : q < m.size
    · have hq2 : (q : Int) < m.size := by omega
      have h256 := UInt8.toNat_lt m[q]
      obtain ⟨db, hdb⟩ : ∃ d, d = digitB m[q] := ⟨_, rfl⟩
      have CD := Lib.hid (show Calls Tryd.prog 70 #[.int .u8 m[q].toNat] w (fun e w' => e = .returned (.bool db) ∧ w = w') from hdb ▸ tdigit m[q] w)
      have HD := Lib.hid hdb
      have HT := Lib.hid (take_byte hlt)
      clear hdb
      cases db
      case true =>
        go_wp2_with (go_at_call 70; refine CD.out.mono ?_; rintro e w9 ⟨rfl, rfl⟩)
        go_round
        case rel => exact ⟨q + 1, by go_num, by omega, Lib.hid (by rw [HT.out, List.all_append, HR.out]; simp [← HD.out])⟩
        case measure => simp [intOf]; omega
      case false =>
        have HF := Lib.hid (show nb = false by
          rw [HL.out, Bool.and_eq_false_iff]; left
          rw [Bool.eq_false_iff]
          intro ha
          have := List.all_eq_true.1 ha m[q] (List.getElem_mem (by simpa using hlt : q < m.data.toList.length))
          rw [← HD.out] at this; cases this)
        go_wp2_with (go_at_call 70; refine CD.out.mono ?_; rintro e w9 ⟨rfl, rfl⟩)
        go_ret
        exact ⟨by rw [HF.out]; rfl, rfl⟩
    · have hq3 : ¬ (q : Int) < m.size := by omega
      have HA := Lib.hid (show nb = !m.toList.isEmpty by
        rw [HL.out, ByteArray.toList_eq]
        have := HR.out
        rw [List.take_of_length_le (by rw [← size_list]; omega)] at this
        rw [this]; rfl)
      clear hlt hq
      cases h0 : m.toList.isEmpty
      all_goals
        go_wp2_with fail
        go_ret
        exact ⟨by rw [HA.out, h0]; rfl, rfl⟩

/-! ### Parse -/
theorem Leaf.any {t : T} {w w' : World} {S S' : Nat → Prop} {v : Value} (h : RepT w S v t) (hl : t.list = []) (hm : t.map = []) : RepT w' S' v t := by
  obtain ⟨la, lc, ma, mc, rfl, hk, hn, hs, h1, h2, h3, h4, h5, h6, -, -⟩ := h.inv
  exact RepT.of ⟨hk, hn, hs, h1, h2, h3, h4, h5, h6, fun i hi => by rw [hl] at hi; simp at hi, fun i hi => by rw [hm] at hi; simp at hi⟩
def parseV (s : ByteArray) : T := (parseT s).getD T.zero
def parseE (s : ByteArray) : Int := if (parseT s).isSome then 0 else 9
def ParsePost (w : World) (t : T) (ec : Int) (e : Ending) (w' : World) : Prop := ∃ v, e = .returned (.tuple #[v, .int .i64 ec]) ∧ (∀ w2 S, RepT w2 S v t) ∧ Below w.heap.size w w'
theorem parse_is {s : ByteArray} {t : T} (h : parseT s = some t) : parseV s = t ∧ parseE s = 0 := by simp [parseV, parseE, h]
theorem parse_over {s : ByteArray} (h : parseT s = none) : parseV s = T.zero ∧ parseE s = 9 := by simp [parseV, parseE, h]
theorem toList_eq_iff (s : ByteArray) (l : List UInt8) (b : Bool) (h : (s.toList == l) = b) : (s.data.toList = l) = (b = true) := by
  rw [ByteArray.toList_eq] at h
  rw [← h]; simp
/-- What the words of a switch say of a text. -/
theorem empty_eq (s : ByteArray) : s.toList.isEmpty = decide (s.data.toList = []) := by
  rw [ByteArray.toList_eq]; cases s.data.toList <;> rfl
theorem word_eq (s : ByteArray) (l : List UInt8) : (s.toList == l) = decide (s.data.toList = l) := by
  rw [ByteArray.toList_eq]
  by_cases h : s.data.toList = l
  · rw [h]; simp
  · rw [beq_eq_false_iff_ne.2 h]; simp [h]
theorem tparseInt_ok (s : ByteArray) (hs : s.size ≤ 140737488351232) (n : Int) (hn : numL s.data.toList = true) (hi : intL s.data.toList = some n) (w : World) :
    Calls Tryd.prog 75 #[.string s, .int .i64 10, .int .i64 64] w fun e w' => e = .returned (.tuple #[.int .i64 n, .nilIface]) ∧ Below w.heap.size w w' := by
  refine (Tryd.strconv_ParseInt_10_at64_ok s (by omega) n (by rw [parse_num hn, hi]) w).mono ?_
  rintro e w' ⟨rfl, rfl | ⟨t, rfl⟩⟩
  · exact ⟨rfl, Below.refl _ _⟩
  · exact ⟨rfl, Lib.bytesWorld_below _ _ _⟩
theorem tparseInt_over (s : ByteArray) (hs : s.size ≤ 140737488351232) (hn : numL s.data.toList = true) (hi : intL s.data.toList = none) (w : World) (hv : ScalV w) :
    Calls Tryd.prog 75 #[.string s, .int .i64 10, .int .i64 64] w fun e w' => ∃ n N, e = .returned (.tuple #[.int .i64 n, .iface 141 (.pointer (some ⟨N, 0, none⟩))]) ∧ Below w.heap.size w w' := by
  obtain ⟨-, tp, p, h2⟩ := hv
  refine (Tryd.strconv_ParseInt_10_at64_range_var s (by omega) (by rw [parse_num hn, hi]) tp p w h2).mono ?_
  rintro e w' ⟨N, rfl, -, -, hb⟩
  exact ⟨_, N, rfl, hb⟩
theorem intL_ok {l : List UInt8} {n : Int} (h : intL l = some n) : i64ok n := by
  unfold intL at h
  unfold i64ok
  split at h
  · split at h
    · injection h with h; omega
    · cases h
  · split at h
    · injection h with h; omega
    · cases h

set_option maxRecDepth 100000 in
set_option maxHeartbeats 8000000 in
theorem tparse (s : ByteArray) (hs : s.size ≤ 140737488351232) (w : World) (hv : ScalV w) : Calls Tryd.prog 31 #[.string s] w (ParsePost w (parseV s) (parseE s)) := by
  have HV := Lib.hid hv
  clear hv
  have e0 := empty_eq s
  have e1 := word_eq s [126]
  have e2 := word_eq s [110, 117, 108, 108]
  have e3 := word_eq s [116, 114, 117, 101]
  have e4 := word_eq s [102, 97, 108, 115, 101]
  have Z : ∀ {w0 : World}, Below w.heap.size w w0 → Hid (Below w.heap.size w w0) := fun h => Lib.hid h
  -- nothing
  have nul : nullish s.data.toList → (s.toList.isEmpty = true ∨ (s.toList.isEmpty = false ∧ (s.toList == [126]) = true) ∨ (s.toList.isEmpty = false ∧ (s.toList == [126]) = false ∧ (s.toList == [110, 117, 108, 108]) = true)) := fun h => by
    rw [e0, e1, e2]
    by_cases h1 : s.data.toList = []
    · left; simp [h1]
    · by_cases h2 : s.data.toList = [126]
      · right; left; simp [h2]
      · right; right
        rcases h with h | h | h
        · exact absurd h h1
        · exact absurd h h2
        · simp [h1, h2]; exact h
  by_cases hz : nullish s.data.toList
  · have HP := Lib.hid (parse_is (s := s) (t := T.zero) (by rw [parseT, if_pos hz]))
    rcases nul hz with f0 | ⟨f0, f1⟩ | ⟨f0, f1, f2⟩
    all_goals
      clear e0 e1 e2 e3 e4 nul hz
      go_enter Tryd.func31, Tryd.ntmps31
      go_wp2_with fail
      refine (tnull _).mono ?_
      rintro e w1 ⟨v, rfl, hr, hb1⟩
      obtain ⟨la, lc, ma, mc, rfl, -⟩ := hr.inv
      have HR := Lib.hid hr
      have hk := (Blk.new w 38 #[.int .i64 0, .bool false, .int .i64 0, .string ⟨#[]⟩, .slice none 0 0, .slice none 0 0]).keep hb1
      have HK := Lib.hid hk
      have k0 := ((hk).cell 0 : _ = some _); have k1 := ((hk).cell 1 : _ = some _); have k2 := ((hk).cell 2 : _ = some _); have k3 := ((hk).cell 3 : _ = some _); have k4 := ((hk).cell 4 : _ = some _); have k5 := ((hk).cell 5 : _ = some _)
      have f0 := (hk).frozen 0; have f1 := (hk).frozen 1; have f2 := (hk).frozen 2; have f3 := (hk).frozen 3; have f4 := (hk).frozen 4; have f5 := (hk).frozen 5
      have HB := Lib.hid (Below.next (Below.new _ _) hb1)
      clear hr hb1 hk
      go_wp2_with fail
      exact ret_cell2 rfl rfl rfl ((((((HK.out.set_ 0 _).set_ 1 _).set_ 2 _).set_ 3 _).set_ 4 _).set_ 5 _) Tryd.underlying38 val_size rfl ⟨_, by rw [HP.out.2]; rfl, fun w2 S => by rw [HP.out.1]; exact Leaf.any HR.out rfl rfl, set6_below (o := 0) HB.out (by omega)⟩
  have f0 : s.toList.isEmpty = false := by rw [e0]; exact decide_eq_false (fun e => hz (.inl e))
  have f1 : (s.toList == [126]) = false := by rw [e1]; exact decide_eq_false (fun e => hz (.inr (.inl e)))
  have f2 : (s.toList == [110, 117, 108, 108]) = false := by rw [e2]; exact decide_eq_false (fun e => hz (.inr (.inr e)))
  clear e0 e1 e2 nul
  by_cases ht : s.data.toList = trueW
  · have f3 : (s.toList == [116, 114, 117, 101]) = true := by rw [e3]; exact decide_eq_true ht
    have HP := Lib.hid (parse_is (s := s) (t := tB true) (by rw [parseT, if_neg hz, if_pos ht]))
    clear e3 e4 hz ht
    go_enter Tryd.func31, Tryd.ntmps31
    go_wp2_with fail
    refine (tbool true _).mono ?_
    rintro e w1 ⟨v, rfl, hr, hb1⟩
    obtain ⟨la, lc, ma, mc, rfl, -⟩ := hr.inv
    have HR := Lib.hid hr
    have hk := (Blk.new w 38 #[.int .i64 0, .bool false, .int .i64 0, .string ⟨#[]⟩, .slice none 0 0, .slice none 0 0]).keep hb1
    have HK := Lib.hid hk
    have k0 := ((hk).cell 0 : _ = some _); have k1 := ((hk).cell 1 : _ = some _); have k2 := ((hk).cell 2 : _ = some _); have k3 := ((hk).cell 3 : _ = some _); have k4 := ((hk).cell 4 : _ = some _); have k5 := ((hk).cell 5 : _ = some _)
    have f0 := (hk).frozen 0; have f1 := (hk).frozen 1; have f2 := (hk).frozen 2; have f3 := (hk).frozen 3; have f4 := (hk).frozen 4; have f5 := (hk).frozen 5
    have HB := Lib.hid (Below.next (Below.new _ _) hb1)
    clear hr hb1 hk
    go_wp2_with fail
    exact ret_cell2 rfl rfl rfl ((((((HK.out.set_ 0 _).set_ 1 _).set_ 2 _).set_ 3 _).set_ 4 _).set_ 5 _) Tryd.underlying38 val_size rfl ⟨_, by rw [HP.out.2]; rfl, fun w2 S => by rw [HP.out.1]; exact Leaf.any HR.out rfl rfl, set6_below (o := 0) HB.out (by omega)⟩
  have f3 : (s.toList == [116, 114, 117, 101]) = false := by rw [e3]; exact decide_eq_false ht
  by_cases hf : s.data.toList = falseW
  · have f4 : (s.toList == [102, 97, 108, 115, 101]) = true := by rw [e4]; exact decide_eq_true hf
    have HP := Lib.hid (parse_is (s := s) (t := tB false) (by rw [parseT, if_neg hz, if_neg ht, if_pos hf]))
    clear e3 e4 hz ht hf
    go_enter Tryd.func31, Tryd.ntmps31
    go_wp2_with fail
    refine (tbool false _).mono ?_
    rintro e w1 ⟨v, rfl, hr, hb1⟩
    obtain ⟨la, lc, ma, mc, rfl, -⟩ := hr.inv
    have HR := Lib.hid hr
    have hk := (Blk.new w 38 #[.int .i64 0, .bool false, .int .i64 0, .string ⟨#[]⟩, .slice none 0 0, .slice none 0 0]).keep hb1
    have HK := Lib.hid hk
    have k0 := ((hk).cell 0 : _ = some _); have k1 := ((hk).cell 1 : _ = some _); have k2 := ((hk).cell 2 : _ = some _); have k3 := ((hk).cell 3 : _ = some _); have k4 := ((hk).cell 4 : _ = some _); have k5 := ((hk).cell 5 : _ = some _)
    have f0 := (hk).frozen 0; have f1 := (hk).frozen 1; have f2 := (hk).frozen 2; have f3 := (hk).frozen 3; have f4 := (hk).frozen 4; have f5 := (hk).frozen 5
    have HB := Lib.hid (Below.next (Below.new _ _) hb1)
    clear hr hb1 hk
    go_wp2_with fail
    exact ret_cell2 rfl rfl rfl ((((((HK.out.set_ 0 _).set_ 1 _).set_ 2 _).set_ 3 _).set_ 4 _).set_ 5 _) Tryd.underlying38 val_size rfl ⟨_, by rw [HP.out.2]; rfl, fun w2 S => by rw [HP.out.1]; exact Leaf.any HR.out rfl rfl, set6_below (o := 0) HB.out (by omega)⟩
  have f4 : (s.toList == [102, 97, 108, 115, 101]) = false := by rw [e4]; exact decide_eq_false hf
  clear e3 e4
  obtain ⟨nb, hnb⟩ : ∃ d, d = numL s.data.toList := ⟨_, rfl⟩
  have CN := Lib.hid (fun w2 => show Calls Tryd.prog 74 #[.string s] w2 (fun e w' => e = .returned (.bool nb) ∧ w2 = w') from hnb ▸ tnumber s (by omega) w2)
  cases nb
  case false =>
    have HP := Lib.hid (parse_is (s := s) (t := tS s) (by rw [parseT, if_neg hz, if_neg ht, if_neg hf, ← hnb]; rfl))
    clear hz ht hf hnb
    go_enter Tryd.func31, Tryd.ntmps31
    go_wp2_with fail
    refine (CN.out _).mono ?_
    rintro e w0 ⟨rfl, rfl⟩
    go_wp2_with fail
    refine (tstr s hs _).mono ?_
    rintro e w1 ⟨v, rfl, hr, hb1⟩
    obtain ⟨la, lc, ma, mc, rfl, -⟩ := hr.inv
    have HR := Lib.hid hr
    have hk := (Blk.new w 38 #[.int .i64 0, .bool false, .int .i64 0, .string ⟨#[]⟩, .slice none 0 0, .slice none 0 0]).keep hb1
    have HK := Lib.hid hk
    have k0 := ((hk).cell 0 : _ = some _); have k1 := ((hk).cell 1 : _ = some _); have k2 := ((hk).cell 2 : _ = some _); have k3 := ((hk).cell 3 : _ = some _); have k4 := ((hk).cell 4 : _ = some _); have k5 := ((hk).cell 5 : _ = some _)
    have f0 := (hk).frozen 0; have f1 := (hk).frozen 1; have f2 := (hk).frozen 2; have f3 := (hk).frozen 3; have f4 := (hk).frozen 4; have f5 := (hk).frozen 5
    have HB := Lib.hid (Below.next (Below.new _ _) hb1)
    clear hr hb1 hk
    go_wp2_with fail
    exact ret_cell2 rfl rfl rfl ((((((HK.out.set_ 0 _).set_ 1 _).set_ 2 _).set_ 3 _).set_ 4 _).set_ 5 _) Tryd.underlying38 val_size rfl ⟨_, by rw [HP.out.2]; rfl, fun w2 S => by rw [HP.out.1]; exact Leaf.any HR.out rfl rfl, set6_below (o := 0) HB.out (by omega)⟩
  case true =>
  cases hi : intL s.data.toList with
  | some n =>
    have HP := Lib.hid (parse_is (parse_int hnb.symm hi))
    have CI := Lib.hid (fun w2 => tparseInt_ok s hs n hnb.symm hi w2)
    have hn := intL_ok hi
    have HN := Lib.hid hn
    clear hz ht hf hnb hi hn
    go_enter Tryd.func31, Tryd.ntmps31
    go_wp2_with fail
    refine (CN.out _).mono ?_
    rintro e w0 ⟨rfl, rfl⟩
    go_wp2_with fail
    refine (CI.out _).mono ?_
    rintro e w0 ⟨rfl, hb0⟩
    go_wp2_with fail
    refine (tint n HN.out _).mono ?_
    rintro e w1 ⟨v, rfl, hr, hb1⟩
    obtain ⟨la, lc, ma, mc, rfl, -⟩ := hr.inv
    have HR := Lib.hid hr
    have hk := ((Blk.new w 38 #[.int .i64 0, .bool false, .int .i64 0, .string ⟨#[]⟩, .slice none 0 0, .slice none 0 0]).keep hb0).keep hb1
    have HK := Lib.hid hk
    have k0 := ((hk).cell 0 : _ = some _); have k1 := ((hk).cell 1 : _ = some _); have k2 := ((hk).cell 2 : _ = some _); have k3 := ((hk).cell 3 : _ = some _); have k4 := ((hk).cell 4 : _ = some _); have k5 := ((hk).cell 5 : _ = some _)
    have f0 := (hk).frozen 0; have f1 := (hk).frozen 1; have f2 := (hk).frozen 2; have f3 := (hk).frozen 3; have f4 := (hk).frozen 4; have f5 := (hk).frozen 5
    have HB := Lib.hid (Below.next (Below.next (Below.new _ _) hb0) hb1)
    clear hr hb1 hk hb0
    go_wp2_with fail
    exact ret_cell2 rfl rfl rfl ((((((HK.out.set_ 0 _).set_ 1 _).set_ 2 _).set_ 3 _).set_ 4 _).set_ 5 _) Tryd.underlying38 val_size rfl ⟨_, by rw [HP.out.2]; rfl, fun w2 S => by rw [HP.out.1]; exact Leaf.any HR.out rfl rfl, set6_below (o := 0) HB.out (by omega)⟩
  | none =>
    have HP := Lib.hid (parse_over (s := s) (by rw [parseT, if_neg hz, if_neg ht, if_neg hf, ← hnb, hi]; rfl))
    have CI := Lib.hid (fun w2 h2 => tparseInt_over s hs hnb.symm hi w2 h2)
    clear hz ht hf hnb hi
    go_enter Tryd.func31, Tryd.ntmps31
    go_wp2_with fail
    refine (CN.out _).mono ?_
    rintro e w0 ⟨rfl, rfl⟩
    go_wp2_with fail
    refine (CI.out _ (HV.out.keep (Below.new _ _))).mono ?_
    rintro e w0 ⟨n, N, rfl, hb0⟩
    have hk := (Blk.new w 38 #[.int .i64 0, .bool false, .int .i64 0, .string ⟨#[]⟩, .slice none 0 0, .slice none 0 0]).keep hb0
    have HK := Lib.hid hk
    have k0 := ((hk).cell 0 : _ = some _); have k1 := ((hk).cell 1 : _ = some _); have k2 := ((hk).cell 2 : _ = some _); have k3 := ((hk).cell 3 : _ = some _); have k4 := ((hk).cell 4 : _ = some _); have k5 := ((hk).cell 5 : _ = some _)
    have f0 := (hk).frozen 0; have f1 := (hk).frozen 1; have f2 := (hk).frozen 2; have f3 := (hk).frozen 3; have f4 := (hk).frozen 4; have f5 := (hk).frozen 5
    have HB := Lib.hid (Below.next (Below.new _ _) hb0)
    clear hk hb0
    go_wp2_with fail
    exact ret_cell2 rfl rfl rfl ((((((HK.out.set_ 0 _).set_ 1 _).set_ 2 _).set_ 3 _).set_ 4 _).set_ 5 _) Tryd.underlying38 val_size rfl ⟨_, by rw [HP.out.2]; rfl, fun w2 S => by rw [HP.out.1]; exact rep_zero _ _, set6_below (o := 0) HB.out (by omega)⟩

/-! ### Print, Text -/
theorem tformat (n : Int) (hn : i64ok n) (w : World) (hv : ScalV w) : Calls Tryd.prog 77 #[.int .i64 n, .int .i64 10] w fun e w' => e = .returned (.string ⟨(Lib.itoa n).toArray⟩) ∧ Below w.heap.size w w' := by
  unfold i64ok at hn
  refine (Tryd.strconv_FormatInt_10 n hn.1 (by omega) w hv.1).mono ?_
  rintro e w' ⟨rfl, k, os, rfl⟩
  exact ⟨rfl, Lib.below_grow _ _ (Nat.le_refl _) _ _⟩
theorem tformatB (b : Bool) (w : World) : Calls Tryd.prog 76 #[.bool b] w fun e w' => ∃ q : ByteArray, e = .returned (.string q) ∧ q.data.toList = (if b then trueW else falseW) ∧ w = w' := by
  refine (Tryd.strconv_FormatBool b w).mono ?_
  rintro e w' ⟨rfl, rfl⟩
  exact ⟨_, rfl, by cases b <;> rfl, rfl⟩
set_option maxRecDepth 100000 in
set_option maxHeartbeats 8000000 in
theorem tprint (t : T) (v : Value) (w : World) (S : Nat → Prop) (h : RepT w S v t) (hs : t.str.size ≤ 1000000) (hv : ScalV w) : Calls Tryd.prog 32 #[v] w (FreshPost w (printL t)) := by
  obtain ⟨la, lc, ma, mc, rfl, hp⟩ := h.inv
  have HN := Lib.hid hp.2.1
  clear hp h
  have HV := Lib.hid (hv.keep (Below.new w (.cells #[.int .i64 t.kind, .bool t.bool, .int .i64 t.int, .string t.str, .slice la t.list.length lc, .slice ma t.map.length mc] 38)))
  have HW := Lib.hid (Below.new w (.cells #[.int .i64 t.kind, .bool t.bool, .int .i64 t.int, .string t.str, .slice la t.list.length lc, .slice ma t.map.length mc] 38))
  clear hv
  have HP := Lib.hid (show printL t = _ from rfl)
  by_cases k1 : t.kind = 1
  · have g1 : (t.kind == 1) = true := by rw [k1]; rfl
    have HE := Lib.hid (show printL t = if t.bool then trueW else falseW by rw [printL, if_pos k1])
    clear k1 HP
    go_enter Tryd.func32, Tryd.ntmps32
    go_wp2_with fail
    refine (tformatB _ _).mono ?_
    rintro e w1 ⟨q, rfl, hq, rfl⟩
    have HQ := Lib.hid hq
    clear hq
    go_wp2_with fail
    go_ret
    exact ⟨_, rfl, by rw [HE.out, HQ.out], HW.out⟩
  have g1 : (t.kind == 1) = false := by simpa using k1
  by_cases k2 : t.kind = 2
  · have g2 : (t.kind == 2) = true := by rw [k2]; rfl
    have HE := Lib.hid (show printL t = Lib.itoa t.int by rw [printL, if_neg k1, if_pos k2])
    clear k1 k2 HP
    go_enter Tryd.func32, Tryd.ntmps32
    go_wp2_with fail
    refine (tformat _ HN.out _ HV.out).mono ?_
    rintro e w1 ⟨rfl, hb1⟩
    go_wp2_with fail
    go_ret
    exact ⟨_, rfl, HE.out.symm, Below.next HW.out hb1⟩
  have g2 : (t.kind == 2) = false := by simpa using k2
  by_cases k3 : t.kind = 3
  · have g3 : (t.kind == 3) = true := by rw [k3]; rfl
    obtain ⟨bb, hbb⟩ : ∃ d, d = bareL t.str.data.toList := ⟨_, rfl⟩
    have CB := Lib.hid (fun w2 => show Calls Tryd.prog 30 #[.string t.str] w2 (fun e w' => e = .returned (.bool bb) ∧ w2 = w') from hbb ▸ tbare t.str (by omega) w2)
    have CQ := Lib.hid (fun w2 => tsquote t.str hs w2)
    cases bb
    · have HE := Lib.hid (show printL t = quoteL t.str.data.toList by rw [printL, if_neg k1, if_neg k2, if_pos k3, ← hbb]; rfl)
      clear k1 k2 k3 HP hbb
      go_enter Tryd.func32, Tryd.ntmps32
      go_wp2_with fail
      refine (CB.out _).mono ?_
      rintro e w1 ⟨rfl, rfl⟩
      go_wp2_with fail
      refine (CQ.out _).mono ?_
      rintro e w2 ⟨q, rfl, hq, hb2⟩
      go_wp2_with fail
      go_ret
      exact ⟨_, rfl, by rw [HE.out, hq], Below.next HW.out hb2⟩
    · have HE := Lib.hid (show printL t = t.str.data.toList by rw [printL, if_neg k1, if_neg k2, if_pos k3, ← hbb]; rfl)
      clear k1 k2 k3 HP hbb
      go_enter Tryd.func32, Tryd.ntmps32
      go_wp2_with fail
      refine (CB.out _).mono ?_
      rintro e w1 ⟨rfl, rfl⟩
      go_wp2_with fail
      go_ret
      exact ⟨_, rfl, HE.out.symm, HW.out⟩
  have g3 : (t.kind == 3) = false := by simpa using k3
  by_cases k4 : t.kind = 4
  · have g4 : (t.kind == 4) = true := by rw [k4]; rfl
    have HE := Lib.hid (show printL t = [91, 93] by rw [printL, if_neg k1, if_neg k2, if_neg k3, if_pos k4])
    clear k1 k2 k3 k4 HP
    go_enter Tryd.func32, Tryd.ntmps32
    go_wp2_with fail
    go_ret
    exact ⟨_, rfl, HE.out.symm, HW.out⟩
  have g4 : (t.kind == 4) = false := by simpa using k4
  by_cases k5 : t.kind = 5
  · have g5 : (t.kind == 5) = true := by rw [k5]; rfl
    have HE := Lib.hid (show printL t = [123, 125] by rw [printL, if_neg k1, if_neg k2, if_neg k3, if_neg k4, if_pos k5])
    clear k1 k2 k3 k4 k5 HP
    go_enter Tryd.func32, Tryd.ntmps32
    go_wp2_with fail
    go_ret
    exact ⟨_, rfl, HE.out.symm, HW.out⟩
  have g5 : (t.kind == 5) = false := by simpa using k5
  have HE := Lib.hid (show printL t = nullW by rw [printL, if_neg k1, if_neg k2, if_neg k3, if_neg k4, if_neg k5])
  clear k1 k2 k3 k4 k5 HP
  go_enter Tryd.func32, Tryd.ntmps32
  go_wp2_with fail
  go_ret
  exact ⟨_, rfl, HE.out.symm, HW.out⟩
set_option maxRecDepth 100000 in
set_option maxHeartbeats 8000000 in
theorem ttextS (t : T) (v : Value) (w : World) (S : Nat → Prop) (h : RepT w S v t) (hs : t.str.size ≤ 1000000) (hv : ScalV w) : Calls Tryd.prog 37 #[v] w (FreshPost w (textL t)) := by
  have HH := Lib.hid h
  obtain ⟨la, lc, ma, mc, rfl, hp⟩ := h.inv
  clear hp h
  have HV := Lib.hid (hv.keep (Below.new w (.cells #[.int .i64 t.kind, .bool t.bool, .int .i64 t.int, .string t.str, .slice la t.list.length lc, .slice ma t.map.length mc] 38)))
  have HW := Lib.hid (Below.new w (.cells #[.int .i64 t.kind, .bool t.bool, .int .i64 t.int, .string t.str, .slice la t.list.length lc, .slice ma t.map.length mc] 38))
  clear hv
  by_cases k0 : t.kind = 0
  · have g0 : (t.kind == 0) = true := by rw [k0]; rfl
    have HE := Lib.hid (show textL t = [] by rw [textL, if_pos k0])
    clear k0
    go_enter Tryd.func37, Tryd.ntmps37
    go_wp2_with fail
    go_ret
    exact ⟨_, rfl, HE.out.symm, HW.out⟩
  have g0 : (t.kind == 0) = false := by simpa using k0
  by_cases k3 : t.kind = 3
  · have g3 : (t.kind == 3) = true := by rw [k3]; rfl
    have HE := Lib.hid (show textL t = t.str.data.toList by rw [textL, if_neg k0, if_pos k3])
    clear k0 k3
    go_enter Tryd.func37, Tryd.ntmps37
    go_wp2_with fail
    go_ret
    exact ⟨_, rfl, HE.out.symm, HW.out⟩
  have g3 : (t.kind == 3) = false := by simpa using k3
  have HE := Lib.hid (show textL t = printL t by rw [textL, if_neg k0, if_neg k3])
  clear k0 k3
  go_enter Tryd.func37, Tryd.ntmps37
  go_wp2_with fail
  refine (tprint t _ _ S (HH.out.keep HW.out) hs HV.out).mono ?_
  rintro e w1 ⟨q, rfl, hq, hb⟩
  go_wp2_with fail
  go_ret
  exact ⟨_, rfl, by rw [HE.out, hq], Below.next HW.out hb⟩
end Go.Proofs.YtjnbjehcmckdeaaDoor
