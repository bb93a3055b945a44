/- What is wrong with a value, part by part: what the functions compute. -/
import Derived.Test.YtgbbojnigicnoaaDoorKeys
import Derived.Test.YtgbbojnigicnoaaDoorSzD
namespace Go.Proofs.YtgbbojnigicnoaaDoor
open Go.RowKit

/-- It has just what its kind has. -/
def T.bareB (t : T) : Bool :=
  decide (0 ≤ t.kind) && decide (t.kind ≤ 5) && (decide (t.kind = 1) || !t.bool) && (decide (t.kind = 2) || decide (t.int = 0)) && (decide (t.kind = 3) || t.str.toList.isEmpty) &&
    (decide (t.kind = 4) || t.list.isEmpty) && (decide (t.kind = 5) || t.map.isEmpty)

mutual
def T.parts : T → Int
  | .mk k b n s l m => if T.bareB (.mk k b n s l m) then (if textB s then (if T.partsL l ≠ 0 then T.partsL l else T.partsM none m) else 10) else 8
def T.partsL : List T → Int
  | [] => 0
  | x :: l => if x.parts ≠ 0 then x.parts else T.partsL l
def T.partsM : Option ByteArray → List (ByteArray × T) → Int
  | _, [] => 0
  | prev, p :: r => if keyB p.1 then (if (match prev with | some q => klt q p.1 | none => true) then (if T.partsP p ≠ 0 then T.partsP p else T.partsM (some p.1) r) else 13) else 7
def T.partsP : (ByteArray × T) → Int
  | (_, x) => x.parts
end
theorem T.partsP_eq (p : ByteArray × T) : T.partsP p = p.2.parts := by cases p; simp [T.partsP]
theorem partsM_cons (prev : Option ByteArray) (p : ByteArray × T) (r : List (ByteArray × T)) : T.partsM prev (p :: r) = if keyB p.1 then (if (match prev with | some q => klt q p.1 | none => true) then (if T.partsP p ≠ 0 then T.partsP p else T.partsM (some p.1) r) else 13) else 7 := by
  cases prev <;> simp [T.partsM]
theorem T.parts_eq (t : T) : t.parts = if t.bareB then (if textB t.str then (if T.partsL t.list ≠ 0 then T.partsL t.list else T.partsM none t.map) else 10) else 8 := by
  cases t; rw [T.parts]; rfl

theorem partsL_drop (l : List T) (q : Nat) (h : ∀ j (hj : j < l.length), j < q → l[j].parts = 0) : T.partsL l = T.partsL (l.drop q) := by
  induction q generalizing l with
  | zero => rfl
  | succ q ih =>
    cases l with
    | nil => rfl
    | cons x l =>
      rw [List.drop_succ_cons, T.partsL, if_neg (fun hne => hne (h 0 (by simp) (by omega)))]
      exact ih l fun j hj hq => h (j + 1) (by simpa using hj) (by omega)
theorem partsL_stop {l : List T} {q : Nat} (h : ∀ j (hj : j < l.length), j < q → l[j].parts = 0) (hq : q < l.length) (hne : l[q].parts ≠ 0) : T.partsL l = l[q].parts := by
  rw [partsL_drop l q h, List.drop_eq_getElem_cons hq, T.partsL, if_pos hne]
theorem partsL_all {l : List T} (h : ∀ j (hj : j < l.length), l[j].parts = 0) : T.partsL l = 0 := by
  rw [partsL_drop l l.length fun j hj _ => h j hj, List.drop_length, T.partsL]

/-- Pair j is as it should be. -/
def okAt (m : List (ByteArray × T)) (j : Nat) : Prop := ∀ h : j < m.length, keyB m[j].1 = true ∧ (∀ h0 : 0 < j, klt m[j - 1].1 m[j].1 = true) ∧ m[j].2.parts = 0
def prevOf (m : List (ByteArray × T)) (q : Nat) : Option ByteArray := if h : 0 < q ∧ q - 1 < m.length then some m[q - 1].1 else none
theorem partsM_drop (m : List (ByteArray × T)) (q : Nat) (hq : q ≤ m.length) (h : ∀ j, j < q → okAt m j) : T.partsM none m = T.partsM (prevOf m q) (m.drop q) := by
  induction q with
  | zero => simp [prevOf]
  | succ q ih =>
    have hlt : q < m.length := by omega
    rw [ih (by omega) fun j hj => h j (by omega), List.drop_eq_getElem_cons hlt, partsM_cons]
    obtain ⟨h1, h2, h3⟩ := h q (by omega) hlt
    rw [if_pos h1, if_pos, if_neg]
    · congr 1
      simp [prevOf, hlt]
    · rw [T.partsP_eq]; simp [h3]
    · by_cases h0 : 0 < q
      · rw [prevOf, dif_pos ⟨h0, by omega⟩]
        exact h2 h0
      · rw [prevOf, dif_neg (by omega)]
section
variable {m : List (ByteArray × T)} {q : Nat}
theorem partsM_key (h : ∀ j, j < q → okAt m j) (hq : q < m.length) (hk : keyB m[q].1 = false) : T.partsM none m = 7 := by
  rw [partsM_drop m q (by omega) h, List.drop_eq_getElem_cons hq, partsM_cons, if_neg (by simp [hk])]
theorem partsM_twice (h : ∀ j, j < q → okAt m j) (hq : q < m.length) (hk : keyB m[q].1 = true) (h0 : 0 < q) (hl : klt m[q - 1].1 m[q].1 = false) : T.partsM none m = 13 := by
  rw [partsM_drop m q (by omega) h, List.drop_eq_getElem_cons hq, partsM_cons, if_pos hk, prevOf, dif_pos ⟨h0, by omega⟩]
  simp [hl]
theorem partsM_val (h : ∀ j, j < q → okAt m j) (hq : q < m.length) (hk : keyB m[q].1 = true) (hl : ∀ h0 : 0 < q, klt m[q - 1].1 m[q].1 = true) (hne : m[q].2.parts ≠ 0) : T.partsM none m = m[q].2.parts := by
  rw [partsM_drop m q (by omega) h, List.drop_eq_getElem_cons hq, partsM_cons, if_pos hk, if_pos, T.partsP_eq, if_pos hne]
  by_cases h0 : 0 < q
  · rw [prevOf, dif_pos ⟨h0, by omega⟩]
    exact hl h0
  · rw [prevOf, dif_neg (by omega)]
theorem partsM_all (h : ∀ j, j < m.length → okAt m j) : T.partsM none m = 0 := by
  rw [partsM_drop m m.length (Nat.le_refl _) h, List.drop_length, T.partsM]
end
theorem parts_bare {t : T} (h : t.bareB = false) : t.parts = 8 := by rw [t.parts_eq]; simp [h]
theorem parts_text {t : T} (h : t.bareB = true) (h2 : textB t.str = false) : t.parts = 10 := by rw [t.parts_eq]; simp [h, h2]
theorem parts_list {t : T} (h : t.bareB = true) (h2 : textB t.str = true) (h3 : T.partsL t.list ≠ 0) : t.parts = T.partsL t.list := by rw [t.parts_eq]; simp [h, h2, h3]
theorem parts_map {t : T} (h : t.bareB = true) (h2 : textB t.str = true) (h3 : T.partsL t.list = 0) : t.parts = T.partsM none t.map := by rw [t.parts_eq]; simp [h, h2, h3]
/-- The error numbers that parts may answer. -/
theorem parts_range (t : T) : 0 ≤ t.parts ∧ t.parts ≤ 13 := by
  induction t using T.ind' with
  | h t ihl ihm =>
    rw [t.parts_eq]
    have hl : 0 ≤ T.partsL t.list ∧ T.partsL t.list ≤ 13 := by
      generalize t.list = l at ihl
      induction l with
      | nil => simp [T.partsL]
      | cons x l ih =>
        rw [T.partsL]
        split
        · exact ihl x (by simp)
        · exact ih fun y hy => ihl y (by simp [hy])
    have hm : ∀ o, 0 ≤ T.partsM o t.map ∧ T.partsM o t.map ≤ 13 := by
      generalize t.map = l at ihm
      induction l with
      | nil => simp [T.partsM]
      | cons x l ih =>
        intro o
        rw [partsM_cons, T.partsP_eq]
        have h1 := ihm x (by simp)
        have h2 := ih (fun y hy => ihm y (by simp [hy])) (some x.1)
        generalize (match o with | some q => klt q x.1 | none => true) = bb
        cases bb <;> (repeat' split) <;> omega
    split
    · split
      · split
        · exact hl
        · exact hm _
      · omega
    · omega

end Go.Proofs.YtgbbojnigicnoaaDoor
