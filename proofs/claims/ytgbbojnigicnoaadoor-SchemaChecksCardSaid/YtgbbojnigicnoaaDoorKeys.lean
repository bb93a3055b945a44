/- Texts, keys, and their order. -/
import Derived.Test.YtgbbojnigicnoaaDoorRep
import Derived.Lib.Bytealg
namespace Go.Proofs.YtgbbojnigicnoaaDoor
open Go.RowKit

/-- One text stands ahead of another, byte by byte. -/
def klt (a b : ByteArray) : Bool := Op.bytesLess a.toList b.toList

theorem bl_irrefl (l : List UInt8) : Op.bytesLess l l = false := by
  induction l with
  | nil => rfl
  | cons a l ih => simp [Op.bytesLess, ih]
theorem bl_trans : ∀ (a b c : List UInt8), Op.bytesLess a b = true → Op.bytesLess b c = true → Op.bytesLess a c = true
  | _, [], _, h, _ => by simp [Op.bytesLess] at h
  | _, _ :: _, [], _, h => by simp [Op.bytesLess] at h
  | [], _ :: _, _ :: _, _, _ => rfl
  | x :: a, y :: b, z :: c, h1, h2 => by
    simp only [Op.bytesLess, Bool.or_eq_true, decide_eq_true_eq, Bool.and_eq_true, beq_iff_eq] at h1 h2 ⊢
    rcases h1 with h1 | ⟨rfl, h1⟩
    · rcases h2 with h2 | ⟨rfl, h2⟩
      · exact .inl (UInt8.lt_trans h1 h2)
      · exact .inl h1
    · rcases h2 with h2 | ⟨rfl, h2⟩
      · exact .inl h2
      · exact .inr ⟨rfl, bl_trans a b c h1 h2⟩
theorem bl_total : ∀ (a b : List UInt8), Op.bytesLess a b = true ∨ a = b ∨ Op.bytesLess b a = true
  | [], [] => .inr (.inl rfl)
  | [], _ :: _ => .inl rfl
  | _ :: _, [] => .inr (.inr rfl)
  | x :: a, y :: b => by
    simp only [Op.bytesLess, Bool.or_eq_true, decide_eq_true_eq, Bool.and_eq_true, beq_iff_eq, List.cons.injEq]
    rcases Nat.lt_trichotomy x.toNat y.toNat with h | h | h
    · exact .inl (.inl (UInt8.lt_iff_toNat_lt.2 h))
    · have e : x = y := UInt8.toNat_inj.1 h
      subst e
      rcases bl_total a b with h | h | h
      · exact .inl (.inr ⟨rfl, h⟩)
      · exact .inr (.inl ⟨rfl, h⟩)
      · exact .inr (.inr (.inr ⟨rfl, h⟩))
    · exact .inr (.inr (.inl (UInt8.lt_iff_toNat_lt.2 h)))
theorem ba_ext {a b : ByteArray} (h : a.toList = b.toList) : a = b := by
  rw [ByteArray.toList_eq, ByteArray.toList_eq] at h
  obtain ⟨⟨a⟩⟩ := a; obtain ⟨⟨b⟩⟩ := b
  simp at h; subst h; rfl
theorem klt_irrefl (a : ByteArray) : klt a a = false := bl_irrefl _
theorem klt_trans {a b c : ByteArray} (h : klt a b = true) (k : klt b c = true) : klt a c = true := bl_trans _ _ _ h k
theorem klt_total (a b : ByteArray) : klt a b = true ∨ a = b ∨ klt b a = true := by
  rcases bl_total a.toList b.toList with h | h | h
  · exact .inl h
  · exact .inr (.inl (ba_ext h))
  · exact .inr (.inr h)
theorem klt_asymm {a b : ByteArray} (h : klt a b = true) : klt b a = false := by
  cases h2 : klt b a with
  | false => rfl
  | true => have := klt_trans h h2; rw [klt_irrefl] at this; cases this
theorem klt_ne {a b : ByteArray} (h : klt a b = true) : a ≠ b := by rintro rfl; rw [klt_irrefl] at h; cases h
theorem keq_iff (a b : ByteArray) : (a.toList == b.toList) = decide (a = b) := by
  by_cases h : a = b
  · subst h; simp
  · have : a.toList ≠ b.toList := fun e => h (ba_ext e)
    simp [h, this]

theorem cmpb_eq : ∀ (a b : List UInt8), Lib.compareBytes a b = if Op.bytesLess a b then -1 else if a = b then 0 else 1
  | [], [] => rfl
  | [], _ :: _ => rfl
  | _ :: _, [] => rfl
  | x :: a, y :: b => by
    rw [Lib.compareBytes, cmpb_eq a b]
    by_cases h1 : x < y
    · simp [Op.bytesLess, h1]
    · by_cases h2 : y < x
      · have h3 : x ≠ y := by rintro rfl; exact h1 h2
        simp [Op.bytesLess, h1, h2, h3]
      · have h3 : x = y := by
          have a1 : ¬ x.toNat < y.toNat := fun h => h1 (UInt8.lt_iff_toNat_lt.2 h)
          have a2 : ¬ y.toNat < x.toNat := fun h => h2 (UInt8.lt_iff_toNat_lt.2 h)
          exact UInt8.toNat_inj.1 (by omega)
        subst h3
        simp [Op.bytesLess, h1]
/-- How two texts compare. -/
def kcmp (a b : ByteArray) : Int := if klt a b then -1 else if a = b then 0 else 1
theorem kcmp_eq (a b : ByteArray) : Lib.compareBytes a.data.toList b.data.toList = kcmp a b := by
  rw [cmpb_eq, kcmp, klt, ByteArray.toList_eq, ByteArray.toList_eq]
  by_cases h : a = b
  · subst h; simp
  · have : ¬ a.data.toList = b.data.toList := fun e => h (ba_ext (by rw [ByteArray.toList_eq, ByteArray.toList_eq]; exact e))
    rw [if_neg h, if_neg this]

/-- A byte that a text may have; that a key may have. -/
def okText (c : UInt8) : Bool := decide (32 ≤ c.toNat ∧ c.toNat ≤ 126) || decide (c.toNat = 9) || decide (c.toNat = 10)
def okKey (c : UInt8) : Bool := decide (32 ≤ c.toNat ∧ c.toNat ≤ 126)
def textB (s : ByteArray) : Bool := s.data.toList.all okText && decide (s.size ≤ 65536)
def keyB (s : ByteArray) : Bool := s.data.toList.all okKey && decide (1 ≤ s.size) && decide (s.size ≤ 256)

theorem all_of_get {p : UInt8 → Bool} {s : ByteArray} (h : ∀ i (hi : i < s.size), p s[i] = true) : s.data.toList.all p = true := by
  rw [List.all_eq_true]
  intro x hx
  obtain ⟨i, hi, rfl⟩ := List.getElem_of_mem hx
  exact h i (by simpa using hi)
theorem all_not {p : UInt8 → Bool} {s : ByteArray} {i : Nat} (hi : i < s.size) (h : p s[i] = false) : s.data.toList.all p = false := by
  rw [Bool.eq_false_iff]
  intro ha
  have := List.all_eq_true.1 ha s[i] (List.getElem_mem (by simpa using hi : i < s.data.toList.length))
  rw [h] at this; cases this

end Go.Proofs.YtgbbojnigicnoaaDoor
