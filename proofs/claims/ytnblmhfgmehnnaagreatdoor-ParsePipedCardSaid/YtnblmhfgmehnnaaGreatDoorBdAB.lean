/- Several texts as one. -/
import Derived.Test.YtnblmhfgmehnnaaGreatDoorBdAA
import Derived.Test.YtnblmhfgmehnnaaGreatDoorRows
import Derived.Deep.RegionHeld3
import Derived.Deep.RegionWith
import Derived.Deep.DrawnRows
import Derived.Deep.DeepCutAuto
import Derived.Deep.RegionLaw
import Derived.Shelf.Strings.SlTrimAscii
/- Rows of elements that the call itself made: element by element. -/
namespace Go.Proofs.YtnblmhfgmehnnaaGreatDoor
open Go.RowKit

/-- A row of n elements of sz cells each at the head of block g; E says what each element's cells are. -/
def RowsG (w : World) (A : Option Addr) (g ty sz n lo : Nat) (E : Nat → List Value → Prop) : Prop :=
  0 < n → A = some ⟨g, 0, none⟩ ∧ lo ≤ g ∧ ∃ cur, Blk w g ty cur ∧ n * sz ≤ cur.size ∧ ∀ i, i < n → ∃ cs : List Value, cs.length = sz ∧ (∀ j, j < sz → cur[i * sz + j]? = cs[j]?) ∧ E i cs

section
variable {w w' : World} {A : Option Addr} {g ty sz n lo : Nat} {E E' : Nat → List Value → Prop}
theorem RowsG.mono (h : RowsG w A g ty sz n lo E) (hg : 0 < n → w'.heap[g]? = w.heap[g]?) (hE : ∀ i cs, i < n → E i cs → E' i cs) : RowsG w' A g ty sz n lo E' := fun hn => by
  obtain ⟨e, hlo, cur, hb, hz, hi⟩ := h hn
  exact ⟨e, hlo, cur, (hg hn).trans hb, hz, fun i hin => by
    obtain ⟨cs, h1, h2, h3⟩ := hi i hin
    exact ⟨cs, h1, h2, hE i cs hin h3⟩⟩
theorem RowsG.lt (h : RowsG w A g ty sz n lo E) (hn : 0 < n) : g < w.heap.size := by
  obtain ⟨_, _, _, hb, _⟩ := h hn
  exact hb.lt
theorem RowsG.at_ (h : RowsG w A g ty sz n lo E) {i : Nat} (hi : i < n) : A = some ⟨g, 0, none⟩ ∧ lo ≤ g ∧ ∃ cs : List Value, cs.length = sz ∧ cellsAt w g (i * sz) cs ∧ (∀ j, j < sz → w.frozen? ⟨g, i * sz + j, none⟩ = false) ∧ E i cs := by
  obtain ⟨e, hlo, cur, hb, hz, hall⟩ := h (by omega)
  obtain ⟨cs, h1, h2, h3⟩ := hall i hi
  refine ⟨e, hlo, cs, h1, fun j v hv => ?_, fun j _ => hb.frozen _, h3⟩
  have hj : j < sz := by
    have := (List.getElem?_eq_some_iff.1 hv).1
    omega
  rw [hb.cell, h2 j hj, hv]
/-- One element written anew. -/
theorem RowsG.put (h : RowsG w A g ty sz n lo E) {i : Nat} (hi : i < n) {cs' : List Value} (hl : cs'.length = sz)
    (hw : ∀ cur, Blk w g ty cur → i * sz + sz ≤ cur.size → ∃ cur', Blk w' g ty cur' ∧ cur'.size = cur.size ∧ (∀ j, j < sz → cur'[i * sz + j]? = cs'[j]?) ∧ ∀ k, (k < i * sz ∨ i * sz + sz ≤ k) → cur'[k]? = cur[k]?)
    (hE : ∀ k cs, k < n → k ≠ i → E k cs → E' k cs) (hE' : E' i cs') : RowsG w' A g ty sz n lo E' := fun hn => by
  obtain ⟨e, hlo, cur, hb, hz, hall⟩ := h hn
  have hfit : i * sz + sz ≤ n * sz := by
    have : (i + 1) * sz ≤ n * sz := Nat.mul_le_mul_right _ hi
    rwa [Nat.add_mul, Nat.one_mul] at this
  obtain ⟨cur', hb', hs', hj', hk'⟩ := hw cur hb (by omega)
  refine ⟨e, hlo, cur', hb', by omega, fun k hk => ?_⟩
  by_cases hki : k = i
  · subst hki
    exact ⟨cs', hl, hj', hE'⟩
  · obtain ⟨cs, h1, h2, h3⟩ := hall k hk
    refine ⟨cs, h1, fun j hj => ?_, hE k cs hk hki h3⟩
    rw [hk' _ ?_, h2 j hj]
    rcases Nat.lt_or_gt_of_ne hki with h | h
    · left
      have : (k + 1) * sz ≤ i * sz := Nat.mul_le_mul_right _ h
      rw [Nat.add_mul, Nat.one_mul] at this
      omega
    · right
      have : (i + 1) * sz ≤ k * sz := Nat.mul_le_mul_right _ h
      rw [Nat.add_mul, Nat.one_mul] at this
      omega
end

/-- Six cells stored in a row. -/
theorem Blk.store6 {w : World} {g ty o : Nat} {cur : Array Value} (c0 c1 c2 c3 c4 c5 : Value) (h : Blk w g ty cur) (ho : o + 6 ≤ cur.size) :
    ∃ cur', Blk ((((((w.setCell ⟨g, o, none⟩ c0).setCell ⟨g, o + 1, none⟩ c1).setCell ⟨g, o + 2, none⟩ c2).setCell ⟨g, o + 3, none⟩ c3).setCell ⟨g, o + 4, none⟩ c4).setCell ⟨g, o + 5, none⟩ c5) g ty cur' ∧ cur'.size = cur.size ∧
      (∀ j, j < 6 → cur'[o + j]? = [c0, c1, c2, c3, c4, c5][j]?) ∧ ∀ k, (k < o ∨ o + 6 ≤ k) → cur'[k]? = cur[k]? := by
  refine ⟨_, (((((h.set_ o c0).set_ (o + 1) c1).set_ (o + 2) c2).set_ (o + 3) c3).set_ (o + 4) c4).set_ (o + 5) c5, by simp, fun j hj => ?_, fun k hk => ?_⟩
  · match j, hj with
    | 0, _ => simp [Array.getElem?_setIfInBounds]; omega
    | 1, _ => simp [Array.getElem?_setIfInBounds]; omega
    | 2, _ => simp [Array.getElem?_setIfInBounds]; omega
    | 3, _ => simp [Array.getElem?_setIfInBounds]; omega
    | 4, _ => simp [Array.getElem?_setIfInBounds]; omega
    | 5, _ => simp [Array.getElem?_setIfInBounds]; omega
  · simp only [Array.getElem?_setIfInBounds]
    rw [if_neg (by omega), if_neg (by omega), if_neg (by omega), if_neg (by omega), if_neg (by omega), if_neg (by omega)]
def set6 (w : World) (g o : Nat) (c0 c1 c2 c3 c4 c5 : Value) : World :=
  (((((w.setCell ⟨g, o, none⟩ c0).setCell ⟨g, o + 1, none⟩ c1).setCell ⟨g, o + 2, none⟩ c2).setCell ⟨g, o + 3, none⟩ c3).setCell ⟨g, o + 4, none⟩ c4).setCell ⟨g, o + 5, none⟩ c5
section
variable {w : World} {g o : Nat} {c0 c1 c2 c3 c4 c5 : Value}
theorem set6_heap {k : Nat} (h : k ≠ g) : (set6 w g o c0 c1 c2 c3 c4 c5).heap[k]? = w.heap[k]? := by
  unfold set6
  rw [Below.heap_setCell _ _ _ _ h, Below.heap_setCell _ _ _ _ h, Below.heap_setCell _ _ _ _ h, Below.heap_setCell _ _ _ _ h, Below.heap_setCell _ _ _ _ h, Below.heap_setCell _ _ _ _ h]
theorem set6_size : (set6 w g o c0 c1 c2 c3 c4 c5).heap.size = w.heap.size := by simp [set6, World.setCell]
theorem set6_below {B : Nat} {a : World} (h : Below B a w) (hg : B ≤ g) : Below B a (set6 w g o c0 c1 c2 c3 c4 c5) :=
  (((((h.setCell (p := ⟨g, o, none⟩) hg _).setCell (p := ⟨g, o + 1, none⟩) hg _).setCell (p := ⟨g, o + 2, none⟩) hg _).setCell (p := ⟨g, o + 3, none⟩) hg _).setCell (p := ⟨g, o + 4, none⟩) hg _).setCell (p := ⟨g, o + 5, none⟩) hg _
end
/-- A store touches its block alone. -/
theorem only_set {a w : World} {g o : Nat} {v : Value} (h : a.grownBy w (some g)) : a.grownBy (w.setCell ⟨g, o, none⟩ v) (some g) :=
  ⟨h.os, h.tape, h.output, by simpa [World.setCell] using h.size, fun i hi hne => (Below.heap_setCell w _ v i (fun e => hne (by rw [e]))).trans (h.block i hi hne)⟩
theorem only_refl (w : World) (g : Nat) : w.grownBy w (some g) := World.grownBy.refl w _

/-- What element i of a copied row is: a value's cells, a pair's cells. -/
def ElemL (w : World) (S : Nat → Nat → Prop) (l : List T) (i : Nat) (cs : List Value) : Prop := ∀ h : i < l.length, RepT w (S i) (.agg cs.toArray) l[i]
def ElemM (w : World) (S : Nat → Nat → Prop) (m : List (ByteArray × T)) (i : Nat) (cs : List Value) : Prop :=
  ∀ h : i < m.length, ∃ r, cs = .string m[i].1 :: r ∧ m[i].1.size ≤ 140737488351232 ∧ RepT w (S i) (.agg r.toArray) m[i].2

theorem RowsG.repL {w : World} {A : Option Addr} {g ty lo : Nat} {l : List T} {S : Nat → Nat → Prop} {S' : Nat → Prop} (h : RowsG w A g ty 6 l.length lo (ElemL w S l)) (hg : S' g) (hS : ∀ i b, i < l.length → S i b → b < w.heap.size → S' b) : RepL w S' A l := by
  intro i hi
  obtain ⟨e, _, cs, hl, hc, _, hE⟩ := h.at_ hi
  exact ⟨g, 0, cs, e, hg, by rw [Nat.zero_add]; exact hc, (hE hi).weak (fun b => hS i b hi)⟩
theorem RowsG.repM {w : World} {A : Option Addr} {g ty lo : Nat} {m : List (ByteArray × T)} {S : Nat → Nat → Prop} {S' : Nat → Prop} (h : RowsG w A g ty 7 m.length lo (ElemM w S m)) (hg : S' g) (hS : ∀ i b, i < m.length → S i b → b < w.heap.size → S' b) : RepM w S' A m := by
  intro i hi
  obtain ⟨e, _, cs, hl, hc, _, hE⟩ := h.at_ hi
  obtain ⟨r, rfl, hz, hr⟩ := hE hi
  exact ⟨g, 0, r, e, hg, hz, by rw [Nat.zero_add]; exact hc, hr.weak (fun b => hS i b hi)⟩

/-- The cells of a slice of values, all in one list. -/
theorem RepL.cells {w : World} {S : Nat → Prop} {a : Option Addr} {l : List T} (h : RepL w S a l) : ∃ xs : List Value, xs.length = l.length * 6 ∧ Src w a xs ∧ (∀ u ∈ xs, u.oneCell' = true) ∧ ∀ i (hi : i < l.length), RepT w S (.agg ((xs.drop (i * 6)).take 6).toArray) l[i] := by
  have hch : ∀ i, ∃ cs : List Value, ∀ hi : i < l.length, cs.length = 6 ∧ (∀ u ∈ cs, u.oneCell' = true) ∧ (∃ b o, a = some ⟨b, o, none⟩ ∧ cellsAt w b (o + i * 6) cs) ∧ RepT w S (.agg cs.toArray) l[i] := fun i => by
    by_cases hi : i < l.length
    · obtain ⟨b, o, cs, e, hb, hc, hr⟩ := h i hi
      obtain ⟨la, lc, ma, mc, hv, _⟩ := hr.inv
      have := agg_list hv
      subst this
      exact ⟨_, fun _ => ⟨rfl, by simp [Value.oneCell'], ⟨b, o, e, hc⟩, hr⟩⟩
    · exact ⟨[], fun h' => absurd h' hi⟩
  have hlen : ∀ n, n ≤ l.length → ((List.range n).flatMap fun i => Classical.choose (hch i)).length = n * 6 := fun n => by
    induction n with
    | zero => simp
    | succ n ih =>
      intro hn
      rw [List.range_succ, List.flatMap_append, List.length_append, ih (by omega)]
      simp [(Classical.choose_spec (hch n) (by omega)).1, Nat.add_mul]
  have hget : ∀ n, n ≤ l.length → ∀ i, i < n → (((List.range n).flatMap fun i => Classical.choose (hch i)).drop (i * 6)).take 6 = Classical.choose (hch i) := fun n => by
    induction n with
    | zero => intro _ i hi; omega
    | succ n ih =>
      intro hn i hi
      have h6 := (Classical.choose_spec (hch i) (by omega)).1
      rw [List.range_succ, List.flatMap_append]
      by_cases hin : i = n
      · subst hin
        rw [List.drop_append_of_le_length (by rw [hlen i (by omega)]; exact Nat.le_refl _), List.drop_of_length_le (by rw [hlen i (by omega)]; exact Nat.le_refl _)]
        simp [List.take_of_length_le (Nat.le_of_eq h6)]
      · have hlt : i < n := by omega
        rw [List.drop_append_of_le_length (by rw [hlen n (by omega)]; omega), List.take_append_of_le_length (by rw [List.length_drop, hlen n (by omega)]; omega)]
        exact ih (by omega) i hlt
  refine ⟨(List.range l.length).flatMap fun i => Classical.choose (hch i), hlen _ (Nat.le_refl _), fun j u hu => ?_, fun u hu => ?_, fun i hi => ?_⟩
  · have hj : j < l.length * 6 := by have := (List.getElem?_eq_some_iff.1 hu).1; rw [hlen _ (Nat.le_refl _)] at this; exact this
    have hi : j / 6 < l.length := by omega
    obtain ⟨h6, _, ⟨b, o, e, hc⟩, _⟩ := Classical.choose_spec (hch (j / 6)) hi
    refine ⟨b, o, e, ?_⟩
    have := hc (j % 6) u (by
      rw [← hget _ (Nat.le_refl _) (j / 6) hi, List.getElem?_take_of_lt (by omega), List.getElem?_drop, show j / 6 * 6 + j % 6 = j by omega]
      exact hu)
    rw [show o + j / 6 * 6 + j % 6 = o + j by omega] at this
    exact this
  · obtain ⟨i, hi, hu⟩ := List.mem_flatMap.1 hu
    exact (Classical.choose_spec (hch i) (by simpa using hi)).2.1 u hu
  · rw [hget _ (Nat.le_refl _) i hi]
    exact (Classical.choose_spec (hch i) hi).2.2.2

/-- The cells of a slice of pairs, all in one list. -/
theorem RepM.cells {w : World} {S : Nat → Prop} {a : Option Addr} {l : List (ByteArray × T)} (h : RepM w S a l) : ∃ xs : List Value, xs.length = l.length * 7 ∧ Src w a xs ∧ (∀ u ∈ xs, u.oneCell' = true) ∧ ∀ i (hi : i < l.length), ∃ r, (xs.drop (i * 7)).take 7 = .string l[i].1 :: r ∧ l[i].1.size ≤ 140737488351232 ∧ RepT w S (.agg r.toArray) l[i].2 := by
  have hch : ∀ i, ∃ cs : List Value, ∀ hi : i < l.length, cs.length = 7 ∧ (∀ u ∈ cs, u.oneCell' = true) ∧ (∃ b o, a = some ⟨b, o, none⟩ ∧ cellsAt w b (o + i * 7) cs) ∧ (∃ r, cs = .string l[i].1 :: r ∧ l[i].1.size ≤ 140737488351232 ∧ RepT w S (.agg r.toArray) l[i].2) := fun i => by
    by_cases hi : i < l.length
    · obtain ⟨b, o, cs, e, hb, hz, hc, hr⟩ := h i hi
      obtain ⟨la, lc, ma, mc, hv, _⟩ := hr.inv
      have := agg_list hv
      subst this
      exact ⟨_, fun _ => ⟨rfl, by simp [Value.oneCell'], ⟨b, o, e, hc⟩, ⟨_, rfl, hz, hr⟩⟩⟩
    · exact ⟨[], fun h' => absurd h' hi⟩
  have hlen : ∀ n, n ≤ l.length → ((List.range n).flatMap fun i => Classical.choose (hch i)).length = n * 7 := fun n => by
    induction n with
    | zero => simp
    | succ n ih =>
      intro hn
      rw [List.range_succ, List.flatMap_append, List.length_append, ih (by omega)]
      simp [(Classical.choose_spec (hch n) (by omega)).1, Nat.add_mul]
  have hget : ∀ n, n ≤ l.length → ∀ i, i < n → (((List.range n).flatMap fun i => Classical.choose (hch i)).drop (i * 7)).take 7 = Classical.choose (hch i) := fun n => by
    induction n with
    | zero => intro _ i hi; omega
    | succ n ih =>
      intro hn i hi
      have h7 := (Classical.choose_spec (hch i) (by omega)).1
      rw [List.range_succ, List.flatMap_append]
      by_cases hin : i = n
      · subst hin
        rw [List.drop_append_of_le_length (by rw [hlen i (by omega)]; exact Nat.le_refl _), List.drop_of_length_le (by rw [hlen i (by omega)]; exact Nat.le_refl _)]
        simp [List.take_of_length_le (Nat.le_of_eq h7)]
      · have hlt : i < n := by omega
        rw [List.drop_append_of_le_length (by rw [hlen n (by omega)]; omega), List.take_append_of_le_length (by rw [List.length_drop, hlen n (by omega)]; omega)]
        exact ih (by omega) i hlt
  refine ⟨(List.range l.length).flatMap fun i => Classical.choose (hch i), hlen _ (Nat.le_refl _), fun j u hu => ?_, fun u hu => ?_, fun i hi => ?_⟩
  · have hj : j < l.length * 7 := by have := (List.getElem?_eq_some_iff.1 hu).1; rw [hlen _ (Nat.le_refl _)] at this; exact this
    have hi : j / 7 < l.length := by omega
    obtain ⟨h7, _, ⟨b, o, e, hc⟩, _⟩ := Classical.choose_spec (hch (j / 7)) hi
    refine ⟨b, o, e, ?_⟩
    have := hc (j % 7) u (by
      rw [← hget _ (Nat.le_refl _) (j / 7) hi, List.getElem?_take_of_lt (by omega), List.getElem?_drop, show j / 7 * 7 + j % 7 = j by omega]
      exact hu)
    rw [show o + j / 7 * 7 + j % 7 = o + j by omega] at this
    exact this
  · obtain ⟨i, hi, hu⟩ := List.mem_flatMap.1 hu
    exact (Classical.choose_spec (hch i) (by simpa using hi)).2.1 u hu
  · rw [hget _ (Nat.le_refl _) i hi]
    exact (Classical.choose_spec (hch i) hi).2.2.2

end Go.Proofs.YtnblmhfgmehnnaaGreatDoor

/- Size and depth of a value: the program's functions and the reference's. -/
namespace Go.Proofs.YtnblmhfgmehnnaaGreatDoor
open Go.RowKit

mutual
def T.size : T → Nat
  | .mk _ _ _ _ l m => 1 + T.sizeL l + T.sizeM m
def T.sizeL : List T → Nat
  | [] => 0
  | x :: l => x.size + T.sizeL l
def T.sizeM : List (ByteArray × T) → Nat
  | [] => 0
  | p :: l => T.sizeP p + T.sizeM l
def T.sizeP : (ByteArray × T) → Nat
  | (_, x) => x.size
end
mutual
def T.depth : T → Nat
  | .mk _ _ _ _ l m => 1 + max (T.depthL l) (T.depthM m)
def T.depthL : List T → Nat
  | [] => 0
  | x :: l => max x.depth (T.depthL l)
def T.depthM : List (ByteArray × T) → Nat
  | [] => 0
  | p :: l => max (T.depthP p) (T.depthM l)
def T.depthP : (ByteArray × T) → Nat
  | (_, x) => x.depth
end
theorem T.size_eq (t : T) : t.size = 1 + T.sizeL t.list + T.sizeM t.map := by cases t; simp [T.size, T.list, T.map]
theorem T.depth_eq (t : T) : t.depth = 1 + max (T.depthL t.list) (T.depthM t.map) := by cases t; simp [T.depth, T.list, T.map]
theorem T.sizeL_take (l : List T) (k : Nat) (h : k < l.length) : T.sizeL (l.take (k + 1)) = T.sizeL (l.take k) + l[k].size := by
  induction l generalizing k with
  | nil => simp at h
  | cons x l ih =>
    cases k with
    | zero => simp [T.sizeL]
    | succ k => simp only [List.take_succ_cons, T.sizeL, List.getElem_cons_succ]; rw [ih k (by simpa using h)]; omega
theorem T.sizeL_take_le (l : List T) (k : Nat) : T.sizeL (l.take k) ≤ T.sizeL l := by
  induction l generalizing k with
  | nil => simp [T.sizeL]
  | cons x l ih => cases k with
    | zero => simp [T.sizeL]
    | succ k => simp only [List.take_succ_cons, T.sizeL]; have := ih k; omega
theorem T.sizeM_take (l : List (ByteArray × T)) (k : Nat) (h : k < l.length) : T.sizeM (l.take (k + 1)) = T.sizeM (l.take k) + l[k].2.size := by
  induction l generalizing k with
  | nil => simp at h
  | cons x l ih =>
    cases k with
    | zero => cases x; simp [T.sizeM, T.sizeP]
    | succ k => simp only [List.take_succ_cons, T.sizeM, List.getElem_cons_succ]; rw [ih k (by simpa using h)]; omega
theorem T.sizeM_take_le (l : List (ByteArray × T)) (k : Nat) : T.sizeM (l.take k) ≤ T.sizeM l := by
  induction l generalizing k with
  | nil => simp [T.sizeM]
  | cons x l ih => cases k with
    | zero => simp [T.sizeM]
    | succ k => simp only [List.take_succ_cons, T.sizeM]; have := ih k; omega
theorem T.depthL_take (l : List T) (k : Nat) (h : k < l.length) : T.depthL (l.take (k + 1)) = max (T.depthL (l.take k)) l[k].depth := by
  induction l generalizing k with
  | nil => simp at h
  | cons x l ih =>
    cases k with
    | zero => simp [T.depthL]
    | succ k => simp only [List.take_succ_cons, T.depthL, List.getElem_cons_succ]; rw [ih k (by simpa using h)]; omega
theorem T.depthL_take_le (l : List T) (k : Nat) : T.depthL (l.take k) ≤ T.depthL l := by
  induction l generalizing k with
  | nil => simp [T.depthL]
  | cons x l ih => cases k with
    | zero => simp [T.depthL]
    | succ k => simp only [List.take_succ_cons, T.depthL]; have := ih k; omega
theorem T.depthM_take (l : List (ByteArray × T)) (k : Nat) (h : k < l.length) : T.depthM (l.take (k + 1)) = max (T.depthM (l.take k)) l[k].2.depth := by
  induction l generalizing k with
  | nil => simp at h
  | cons x l ih =>
    cases k with
    | zero => cases x; simp [T.depthM, T.depthP]
    | succ k => simp only [List.take_succ_cons, T.depthM, List.getElem_cons_succ]; rw [ih k (by simpa using h)]; omega
theorem T.depthM_take_le (l : List (ByteArray × T)) (k : Nat) : T.depthM (l.take k) ≤ T.depthM l := by
  induction l generalizing k with
  | nil => simp [T.depthM]
  | cons x l ih => cases k with
    | zero => simp [T.depthM]
    | succ k => simp only [List.take_succ_cons, T.depthM]; have := ih k; omega

def tcells (t : T) (la : Option Addr) (lc : Nat) (ma : Option Addr) (mc : Nat) : Array Value := #[.int .i64 t.kind, .bool t.bool, .int .i64 t.int, .string t.str, .slice la t.list.length lc, .slice ma t.map.length mc]
theorem run_max64 {P : Program} (ts : Array TypeId) (ty : TypeId) (x y : Int) (w : World) : (Builtin.max_ ts ty #[.int .i64 x, .int .i64 y]).run P w = .ok (.int .i64 (max x y)) w := by
  rw [run_max_int2]
  congr 2
  simp only [gt_iff_lt]
  split <;> omega
theorem depth_le (t : T) : t.depth ≤ t.size := by
  induction t using T.ind' with
  | h t ihl ihm =>
    rw [t.depth_eq, t.size_eq]
    have hl : T.depthL t.list ≤ T.sizeL t.list := by
      generalize t.list = l at ihl
      induction l with
      | nil => simp [T.depthL]
      | cons x l ih =>
        have := ihl x (by simp)
        have := ih (fun y hy => ihl y (by simp [hy]))
        simp only [T.depthL, T.sizeL]; omega
    have hm : T.depthM t.map ≤ T.sizeM t.map := by
      generalize t.map = l at ihm
      induction l with
      | nil => simp [T.depthM]
      | cons x l ih =>
        obtain ⟨k, x⟩ := x
        have := ihm (k, x) (by simp)
        have := ih (fun y hy => ihm y (by simp [hy]))
        simp only [T.depthM, T.sizeM, T.depthP, T.sizeP] at *; omega
    omega

def FoldOk (f : Nat) (m : T → Nat) (t : T) : Prop := ∀ (w : World) (S : Nat → Prop) (v : Value), RepT w S v t → t.size < 4611686018427387904 →
    Calls Tryz.prog f #[v] w fun e w' => e = .returned (.int .i64 (m t : Nat)) ∧ Below w.heap.size w w'

end Go.Proofs.YtnblmhfgmehnnaaGreatDoor

/- tree.Clone: the same value, in memory of its own. -/
namespace Go.Proofs.YtnblmhfgmehnnaaGreatDoor
open Go.RowKit
attribute [local go_sem ↓] Go.wp_at_zero Go.wp_at_succ

def zcells : Array Value := #[.int .i64 0, .bool false, .int .i64 0, .string ⟨#[]⟩, .slice none 0 0, .slice none 0 0]
/-- A value in new memory. -/
def NewPost (w : World) (t : T) (e : Ending) (w' : World) : Prop := ∃ v, e = .returned v ∧ RepT w' (fun b => w.heap.size ≤ b) v t ∧ Below w.heap.size w w'
def SW (B g1 g2 q i b : Nat) : Prop := (i < q ∧ B + 2 ≤ b ∧ b ≠ g1 ∧ b ≠ g2) ∨ (q ≤ i ∧ b < B)
/-- How things stand in Clone while it copies: B is its own box, g1 and g2 the rows. -/
def Cl (w wr : World) (t : T) (lc mc : Nat) (A1 A2 : Option Addr) (g1 g2 q r : Nat) : Prop :=
  Blk wr w.heap.size 41 #[.int .i64 t.kind, .bool t.bool, .int .i64 t.int, .string t.str, .slice A1 t.list.length lc, .slice A2 t.map.length mc] ∧ Blk wr (w.heap.size + 1) 41 zcells ∧
  Below w.heap.size w wr ∧ g1 < wr.heap.size ∧ g2 < wr.heap.size ∧ (0 < t.list.length → 0 < t.map.length → g1 ≠ g2) ∧
  RowsG wr A1 g1 41 6 t.list.length (w.heap.size + 2) (ElemL wr (SW w.heap.size g1 g2 q) t.list) ∧
  RowsG wr A2 g2 118 7 t.map.length (w.heap.size + 2) (ElemM wr (SW w.heap.size g1 g2 r) t.map)

/-- A copied row, seen from a later world. -/
theorem rows_of_copy {W w1 w3 : World} {ty sz n lo cap : Nat} {A : Option Addr} {xs : List Value} {E : Nat → List Value → Prop} (hxl : xs.length = n * sz)
    (hc : n ≤ cap ∧ cap ≤ maxLen ∧ (A = none → n = 0 ∧ cap = 0) ∧ (∀ ad, A = some ad → ∃ g cur, ad = ⟨g, 0, none⟩ ∧ W.heap.size ≤ g ∧ Blk w1 g ty cur ∧ cur.size = cap * sz ∧ cur.toList.take (n * sz) = xs) ∧ Below W.heap.size W w1)
    (hlo : lo ≤ W.heap.size) (hpos : 0 < W.heap.size) (hw : ∀ g, W.heap.size ≤ g → g < w1.heap.size → w3.heap[g]? = w1.heap[g]?) (hE : ∀ i, i < n → E i ((xs.drop (i * sz)).take sz)) :
    ∃ g, (0 < n → W.heap.size ≤ g) ∧ g < w1.heap.size ∧ RowsG w3 A g ty sz n lo E := by
  obtain ⟨hcap, hmax, hnone, hsome, hb⟩ := hc
  cases A with
  | none => exact ⟨0, fun h => by have := (hnone rfl).1; omega, Nat.lt_of_lt_of_le hpos hb.size, fun h => by have := (hnone rfl).1; omega⟩
  | some ad =>
    obtain ⟨g, cur, rfl, hg, hbk, hcs, htk⟩ := hsome ad rfl
    refine ⟨g, fun _ => hg, hbk.lt, fun hn => ⟨rfl, by omega, cur, (hw g hg hbk.lt).trans hbk, by rw [hcs]; exact Nat.mul_le_mul_right _ hcap, fun i hi => ⟨(xs.drop (i * sz)).take sz, ?_, fun j hj => ?_, hE i hi⟩⟩⟩
    · have : (i + 1) * sz ≤ n * sz := Nat.mul_le_mul_right _ hi
      rw [Nat.add_mul, Nat.one_mul] at this
      rw [List.length_take, List.length_drop, hxl]; omega
    · have : (i + 1) * sz ≤ n * sz := Nat.mul_le_mul_right _ hi
      rw [Nat.add_mul, Nat.one_mul] at this
      rw [List.getElem?_take_of_lt hj, List.getElem?_drop, ← htk, List.getElem?_take_of_lt (by omega), Array.getElem?_toList]

theorem cl_start {w Wd w1 w2 : World} {t : T} {la lc ma mc A1 A2} {lc' mc' : Nat} {S : Nat → Prop} {xs ys : List Value}
    (hxl : xs.length = t.list.length * 6) (hyl : ys.length = t.map.length * 7)
    (hxr : ∀ i (hi : i < t.list.length), RepT w S (.agg ((xs.drop (i * 6)).take 6).toArray) t.list[i])
    (hyr : ∀ i (hi : i < t.map.length), ∃ r, (ys.drop (i * 7)).take 7 = .string t.map[i].1 :: r ∧ t.map[i].1.size ≤ 140737488351232 ∧ RepT w S (.agg r.toArray) t.map[i].2)
    (hbx : Below w.heap.size w Wd) (hsz : w.heap.size + 2 ≤ Wd.heap.size)
    (hb1 : Blk Wd w.heap.size 41 #[.int .i64 t.kind, .bool t.bool, .int .i64 t.int, .string t.str, .slice la t.list.length lc, .slice ma t.map.length mc]) (hb2 : Blk Wd (w.heap.size + 1) 41 zcells)
    (hc1 : t.list.length ≤ lc' ∧ lc' ≤ maxLen ∧ (A1 = none → t.list.length = 0 ∧ lc' = 0) ∧ (∀ ad, A1 = some ad → ∃ g cur, ad = ⟨g, 0, none⟩ ∧ Wd.heap.size ≤ g ∧ Blk w1 g 41 cur ∧ cur.size = lc' * 6 ∧ cur.toList.take (t.list.length * 6) = xs) ∧ Below Wd.heap.size Wd w1)
    (hc2 : t.map.length ≤ mc' ∧ mc' ≤ maxLen ∧ (A2 = none → t.map.length = 0 ∧ mc' = 0) ∧ (∀ ad, A2 = some ad → ∃ g cur, ad = ⟨g, 0, none⟩ ∧ w1.heap.size ≤ g ∧ Blk w2 g 118 cur ∧ cur.size = mc' * 7 ∧ cur.toList.take (t.map.length * 7) = ys) ∧ Below w1.heap.size w1 w2) :
    ∃ g1 g2, Cl w ((w2.setCell ⟨w.heap.size, 4, none⟩ (.slice A1 t.list.length lc')).setCell ⟨w.heap.size, 5, none⟩ (.slice A2 t.map.length mc')) t lc' mc' A1 A2 g1 g2 0 0 := by
  have h12 := hc2.2.2.2.2
  have h01 := hc1.2.2.2.2
  have hbw2 : Below w.heap.size w w2 := (hbx.trans (h01.mono hbx.size)).trans (h12.mono (Nat.le_trans hbx.size h01.size))
  have hbw : Below w.heap.size w ((w2.setCell ⟨w.heap.size, 4, none⟩ (.slice A1 t.list.length lc')).setCell ⟨w.heap.size, 5, none⟩ (.slice A2 t.map.length mc')) := (hbw2.setCell (Nat.le_refl _) _).setCell (Nat.le_refl _) _
  have hfar : ∀ g, g ≠ w.heap.size → ((w2.setCell ⟨w.heap.size, 4, none⟩ (.slice A1 t.list.length lc')).setCell ⟨w.heap.size, 5, none⟩ (.slice A2 t.map.length mc')).heap[g]? = w2.heap[g]? := fun g hg =>
    (Below.heap_setCell _ _ _ g hg).trans (Below.heap_setCell _ _ _ g hg)
  obtain ⟨g1, hg1, hl1, hr1⟩ := rows_of_copy (lo := w.heap.size + 2) (w3 := (w2.setCell ⟨w.heap.size, 4, none⟩ (.slice A1 t.list.length lc')).setCell ⟨w.heap.size, 5, none⟩ (.slice A2 t.map.length mc')) (E := ElemL ((w2.setCell ⟨w.heap.size, 4, none⟩ (.slice A1 t.list.length lc')).setCell ⟨w.heap.size, 5, none⟩ (.slice A2 t.map.length mc')) (fun _ b => b < w.heap.size) t.list) hxl hc1 hsz (by omega)
    (fun g h1 h2 => (hfar g (by omega)).trans (h12.block g h2)) (fun i _ hi => (hxr i hi).mono (fun b _ h => h) (fun b o _ hlt => hbw.cell hlt))
  obtain ⟨g2, hg2, hl2, hr2⟩ := rows_of_copy (lo := w.heap.size + 2) (w3 := (w2.setCell ⟨w.heap.size, 4, none⟩ (.slice A1 t.list.length lc')).setCell ⟨w.heap.size, 5, none⟩ (.slice A2 t.map.length mc')) (E := ElemM ((w2.setCell ⟨w.heap.size, 4, none⟩ (.slice A1 t.list.length lc')).setCell ⟨w.heap.size, 5, none⟩ (.slice A2 t.map.length mc')) (fun _ b => b < w.heap.size) t.map) hyl hc2 (Nat.le_trans hsz h01.size) (by have := h01.size; omega)
    (fun g h1 h2 => hfar g (by have := h01.size; omega)) (fun i _ hi => by
      obtain ⟨r, e, hz, hr⟩ := hyr i hi
      exact ⟨r, e, hz, hr.mono (fun b _ h => h) (fun b o _ hlt => hbw.cell hlt)⟩)
  refine ⟨g1, g2, ?_, ?_, hbw, by have := h12.size; simp [World.setCell]; omega, by simp [World.setCell]; omega, fun h1 h2 => ?_, ?_, ?_⟩
  · have hk := (hb1.keep h01).keep h12
    exact (hk.set_ 4 _).set_ 5 _
  · exact ((hb2.keep h01).keep h12 |>.far (by simp) _).far (by simp) _
  · have a2 := hg2 h2; omega
  · exact hr1.mono (fun _ => rfl) (fun k cs hk hE h => (hE h).weak (fun b hS _ => .inr ⟨Nat.zero_le _, hS⟩))
  · exact hr2.mono (fun _ => rfl) (fun k cs hk hE h => by
      obtain ⟨r, e, hz, hr⟩ := hE h
      exact ⟨r, e, hz, hr.weak (fun b hS _ => .inr ⟨Nat.zero_le _, hS⟩)⟩)

theorem cl_stepL {w wr w1 : World} {t : T} {lc mc : Nat} {A1 A2 : Option Addr} {g1 g2 q r : Nat} {c0 c1 c2 c3 c4 c5 : Value} (h : Cl w wr t lc mc A1 A2 g1 g2 q r) (hq : q < t.list.length) (hb : Below wr.heap.size wr w1)
    (hr : RepT w1 (fun b => wr.heap.size ≤ b) (.agg #[c0, c1, c2, c3, c4, c5]) t.list[q]) : Cl w (set6 w1 g1 (q * 6) c0 c1 c2 c3 c4 c5) t lc mc A1 A2 g1 g2 (q + 1) r := by
  obtain ⟨hb1, hb2, hbw, hg1, hg2, hne, hL, hM⟩ := h
  have hlo : w.heap.size + 2 ≤ g1 := (hL (by omega)).2.1
  have hsz := hb.size
  have hcell : ∀ b o, b < wr.heap.size → b ≠ g1 → (set6 w1 g1 (q * 6) c0 c1 c2 c3 c4 c5).cell? ⟨b, o, none⟩ = wr.cell? ⟨b, o, none⟩ := fun b o hlt hn =>
    World.cell?_of_block (w := wr) ((set6_heap hn).trans (hb.block b hlt))
  refine ⟨(set6_heap (by omega)).trans ((hb.block _ hb1.lt).trans hb1), (set6_heap (by omega)).trans ((hb.block _ hb2.lt).trans hb2), set6_below (hbw.trans (hb.mono hbw.size)) (by omega), by rw [set6_size]; omega, by rw [set6_size]; omega, hne, ?_, ?_⟩
  · refine RowsG.put (w := w1) (cs' := [c0, c1, c2, c3, c4, c5]) (E := ElemL wr (SW w.heap.size g1 g2 q) t.list) (hL.mono (fun _ => hb.block _ hg1) (fun _ _ _ h => h)) hq rfl (fun cur hcur hfit => Blk.store6 c0 c1 c2 c3 c4 c5 hcur hfit) ?_ ?_
    · intro k cs hk hkq hE hk'
      refine (hE hk').mono (fun b hS _ => by unfold SW at *; omega) (fun b o hS hlt => hcell b o hlt (by unfold SW at hS; omega))
    · intro hq'
      refine hr.mono (fun b (hS : wr.heap.size ≤ b) _ => ?_) (fun b o (hS : wr.heap.size ≤ b) hlt => World.cell?_of_block (w := w1) (set6_heap (show b ≠ g1 by omega)))
      have := hb2.lt; unfold SW; omega
  · refine hM.mono (fun hm => ?_) (fun k cs hk hE hk' => ?_)
    · exact (set6_heap (Ne.symm (hne (by omega) hm))).trans (hb.block _ hg2)
    · obtain ⟨rr, e, hz, hR⟩ := hE hk'
      exact ⟨rr, e, hz, hR.mono (fun b hS _ => hS) (fun b o hS hlt => hcell b o hlt (by unfold SW at hS; omega))⟩

theorem cl_stepM {w wr w1 : World} {t : T} {lc mc : Nat} {A1 A2 : Option Addr} {g1 g2 q r : Nat} {c0 c1 c2 c3 c4 c5 : Value} (h : Cl w wr t lc mc A1 A2 g1 g2 q r) (hq : r < t.map.length) (hb : Below wr.heap.size wr w1)
    (hr : RepT w1 (fun b => wr.heap.size ≤ b) (.agg #[c0, c1, c2, c3, c4, c5]) t.map[r].2) : Cl w (set6 w1 g2 (r * 7 + 1) c0 c1 c2 c3 c4 c5) t lc mc A1 A2 g1 g2 q (r + 1) := by
  obtain ⟨hb1, hb2, hbw, hg1, hg2, hne, hL, hM⟩ := h
  have hlo : w.heap.size + 2 ≤ g2 := (hM (by omega)).2.1
  have hsz := hb.size
  obtain ⟨-, -, cs0, hl0, -, -, hE0⟩ := hM.at_ hq
  obtain ⟨r0, rfl, hz0, -⟩ := hE0 hq
  have hcell : ∀ b o, b < wr.heap.size → b ≠ g2 → (set6 w1 g2 (r * 7 + 1) c0 c1 c2 c3 c4 c5).cell? ⟨b, o, none⟩ = wr.cell? ⟨b, o, none⟩ := fun b o hlt hn =>
    World.cell?_of_block (w := wr) ((set6_heap hn).trans (hb.block b hlt))
  refine ⟨(set6_heap (by omega)).trans ((hb.block _ hb1.lt).trans hb1), (set6_heap (by omega)).trans ((hb.block _ hb2.lt).trans hb2), set6_below (hbw.trans (hb.mono hbw.size)) (by omega), by rw [set6_size]; omega, by rw [set6_size]; omega, hne, ?_, ?_⟩
  · refine hL.mono (fun hm => ?_) (fun k cs hk hE hk' => ?_)
    · exact (set6_heap (hne hm (by omega))).trans (hb.block _ hg1)
    · exact (hE hk').mono (fun b hS _ => hS) (fun b o hS hlt => hcell b o hlt (by unfold SW at hS; omega))
  · have hMw := hM.mono (w' := w1) (fun _ => hb.block _ hg2) (fun _ _ _ h => h)
    obtain ⟨-, -, cs1, hl1, hc1, -, hE1⟩ := hMw.at_ hq
    obtain ⟨r1, rfl, -, -⟩ := hE1 hq
    refine RowsG.put (w := w1) (cs' := .string t.map[r].1 :: [c0, c1, c2, c3, c4, c5]) (E := ElemM wr (SW w.heap.size g1 g2 r) t.map) hMw hq rfl (fun cur hcur hfit => ?_) ?_ ?_
    · obtain ⟨cur', h1, h2, h3, h4⟩ := Blk.store6 (o := r * 7 + 1) c0 c1 c2 c3 c4 c5 hcur (by omega)
      refine ⟨cur', h1, h2, fun j hj => ?_, fun k hk => h4 k (by omega)⟩
      match j, hj with
      | 0, _ =>
        rw [h4 _ (by omega)]
        have := hc1 0 _ rfl
        rw [hcur.cell] at this
        exact this
      | j + 1, hj =>
        have := h3 j (by omega)
        rw [show r * 7 + (j + 1) = r * 7 + 1 + j by omega, this]
        rfl
    · intro k cs hk hkq hE hk'
      obtain ⟨rr, e, hz, hR⟩ := hE hk'
      exact ⟨rr, e, hz, hR.mono (fun b hS _ => by unfold SW at *; omega) (fun b o hS hlt => hcell b o hlt (by unfold SW at hS; omega))⟩
    · intro hq'
      refine ⟨_, rfl, hz0, hr.mono (fun b (hS : wr.heap.size ≤ b) _ => ?_) (fun b o (hS : wr.heap.size ≤ b) hlt => World.cell?_of_block (w := w1) (set6_heap (show b ≠ g2 by omega)))⟩
      have := hb2.lt; unfold SW; omega

/-- A struct's own cells: what a result that lies in memory is. -/
theorem ret_cell {fn : Func} {R : Ending → World → Prop} {a : Act} {w : World} {p : Tmp} {ty g t : Nat} {cs : Array Value} {fs : Array Field} (h : fn.results = #[.cell p ty]) (hp : a.tmps.getD p undef = .pointer (some ⟨g, 0, none⟩)) (hb : Blk w g t cs)
    (hu : Tryz.prog.underlying ty = some (.struct fs)) (hi : (Tryz.prog.info? ty).map (·.size) = some cs.size) (hdf : a.defers = []) (hR : R (.returned (.agg cs)) w) : bodyPost Tryz.prog fn R .ret a w :=
  bodyPost_ret (results_cell_row h _ w g t cs (0, 0) (.struct fs) hp hb hu rfl hi) hdf hR

/-- Clone's end: the result's box holds the copy. -/
theorem clone_new {w wr : World} {t : T} {lc mc : Nat} {A1 A2 : Option Addr} {g1 g2 : Nat} (h : Cl w wr t lc mc A1 A2 g1 g2 t.list.length t.map.length) (hl : t.list.length * 88 ≤ 140737488355328) (hm : t.map.length * 104 ≤ 140737488355328)
    (hk : i64ok t.kind) (hn : i64ok t.int) (hs : t.str.size ≤ 140737488351232) (hlc : t.list.length ≤ lc) (hmc : t.map.length ≤ mc) (hlx : lc ≤ maxLen) (hmx : mc ≤ maxLen) :
    RepT (set6 wr (w.heap.size + 1) 0 (.int .i64 t.kind) (.bool t.bool) (.int .i64 t.int) (.string t.str) (.slice A1 t.list.length lc) (.slice A2 t.map.length mc)) (fun b => w.heap.size ≤ b) (.agg #[.int .i64 t.kind, .bool t.bool, .int .i64 t.int, .string t.str, .slice A1 t.list.length lc, .slice A2 t.map.length mc]) t ∧
    Blk (set6 wr (w.heap.size + 1) 0 (.int .i64 t.kind) (.bool t.bool) (.int .i64 t.int) (.string t.str) (.slice A1 t.list.length lc) (.slice A2 t.map.length mc)) (w.heap.size + 1) 41 #[.int .i64 t.kind, .bool t.bool, .int .i64 t.int, .string t.str, .slice A1 t.list.length lc, .slice A2 t.map.length mc] ∧
    Below w.heap.size w (set6 wr (w.heap.size + 1) 0 (.int .i64 t.kind) (.bool t.bool) (.int .i64 t.int) (.string t.str) (.slice A1 t.list.length lc) (.slice A2 t.map.length mc)) := by
  obtain ⟨hb1, hb2, hbw, hg1, hg2, hne, hL, hM⟩ := h
  refine ⟨RepT.of ⟨hk, hn, hs, hl, hm, hlc, hmc, hlx, hmx, ?_, ?_⟩, ?_, set6_below hbw (by omega)⟩
  · by_cases h0 : 0 < t.list.length
    · have hlo := (hL h0).2.1
      refine RepL.mono (w := wr) (S := fun b => w.heap.size + 2 ≤ b) ?_ (fun b (h : w.heap.size + 2 ≤ b) _ => by show w.heap.size ≤ b; omega) (fun b o (h : w.heap.size + 2 ≤ b) hlt => World.cell?_of_block (w := wr) (set6_heap (show b ≠ w.heap.size + 1 by omega)))
      exact hL.repL hlo (fun i b hi hS _ => by unfold SW at hS; omega)
    · intro i hi; omega
  · by_cases h0 : 0 < t.map.length
    · have hlo := (hM h0).2.1
      refine RepM.mono (w := wr) (S := fun b => w.heap.size + 2 ≤ b) ?_ (fun b (h : w.heap.size + 2 ≤ b) _ => by show w.heap.size ≤ b; omega) (fun b o (h : w.heap.size + 2 ≤ b) hlt => World.cell?_of_block (w := wr) (set6_heap (show b ≠ w.heap.size + 1 by omega)))
      exact hM.repM hlo (fun i b hi hS _ => by unfold SW at hS; omega)
    · intro i hi; omega
  · exact (((((hb2.set_ 0 _).set_ 1 _).set_ 2 _).set_ 3 _).set_ 4 _).set_ 5 _

/-- What Clone leaves, whole. -/
def ClonePost (w : World) (t : T) (e : Ending) (w' : World) : Prop :=
  ∃ A1 lc A2 mc g1 g2 wr, e = .returned (.agg #[.int .i64 t.kind, .bool t.bool, .int .i64 t.int, .string t.str, .slice A1 t.list.length lc, .slice A2 t.map.length mc]) ∧ Cl w wr t lc mc A1 A2 g1 g2 t.list.length t.map.length ∧
    w' = set6 wr (w.heap.size + 1) 0 (.int .i64 t.kind) (.bool t.bool) (.int .i64 t.int) (.string t.str) (.slice A1 t.list.length lc) (.slice A2 t.map.length mc) ∧
    t.list.length ≤ lc ∧ t.map.length ≤ mc ∧ lc ≤ maxLen ∧ mc ≤ maxLen
theorem val_size : (Tryz.prog.info? 41).map (·.size) = some 6 := by kernel_rfl

end Go.Proofs.YtnblmhfgmehnnaaGreatDoor

/- A map's row of the call's own: what Insert and a store into it leave. -/
namespace Go.Proofs.YtnblmhfgmehnnaaGreatDoor
open Go.RowKit Go.Lib

def ElemsM (w : World) (B : Nat) (own : Option Nat) (m : List (ByteArray × T)) (xs : List Value) : Prop :=
  ∀ i (hi : i < m.length), ∃ r, (xs.drop (i * 7)).take 7 = .string m[i].1 :: r ∧ m[i].1.size ≤ 140737488351232 ∧ RepT w (fun b => B ≤ b ∧ own ≠ some b) (.agg r.toArray) m[i].2
/-- A row of pairs of the call's own, their values in other memory of the call's own. -/
def OwnM (w : World) (B : Nat) (A : Option Addr) (c : Nat) (m : List (ByteArray × T)) : Prop :=
  ∃ xs, w.ownsRow B 118 7 (.slice A m.length c) m.length xs ∧ (∀ u ∈ xs, u.oneCell' = true) ∧ ElemsM w B (Value.ownBlock (.slice A m.length c)) m xs

theorem OwnM.nil (w : World) (B : Nat) : OwnM w B none 0 [] := ⟨[], ⟨rfl, Or.inl ⟨rfl, rfl⟩⟩, by simp, fun i hi => by simp at hi⟩
theorem OwnM.own {w : World} {B : Nat} {A : Option Addr} {c : Nat} {m : List (ByteArray × T)} (h : OwnM w B A c m) : ∀ g, Value.ownBlock (.slice A m.length c) = some g → B ≤ g ∧ g < w.heap.size := by
  obtain ⟨xs, ⟨_, hc⟩, _⟩ := h
  intro g hg
  rcases hc with ⟨e, _⟩ | ⟨g', cap, cur, e, h1, h2, _⟩
  · rw [e] at hg; cases hg
  · rw [e] at hg
    simp [Value.ownBlock] at hg
    subst hg
    exact ⟨h1, Blk.lt h2⟩
theorem ownsRow_of {w w' : World} {B sz n e : Nat} {v : Value} {xs : List Value} (h : w.ownsRow B e sz v n xs) (hw : ∀ g, v.ownBlock = some g → w'.heap[g]? = w.heap[g]?) : w'.ownsRow B e sz v n xs := by
  obtain ⟨hl, hc⟩ := h
  refine ⟨hl, ?_⟩
  rcases hc with h | ⟨g, cap, cur, rfl, h1, h2, h3⟩
  · exact Or.inl h
  · exact Or.inr ⟨g, cap, cur, rfl, h1, (hw g rfl).trans h2, h3⟩
theorem OwnM.keep {w w' : World} {B : Nat} {A : Option Addr} {c : Nat} {m : List (ByteArray × T)} (h : OwnM w B A c m) (hb : Below w.heap.size w w') : OwnM w' B A c m := by
  have hown := h.own
  obtain ⟨xs, h1, h2, h3⟩ := h
  refine ⟨xs, ownsRow_of h1 (fun g hg => hb.block g (hown g hg).2), h2, fun i hi => ?_⟩
  obtain ⟨r, e, hz, hr⟩ := h3 i hi
  exact ⟨r, e, hz, hr.keep hb⟩
theorem OwnM.len {w : World} {B : Nat} {A : Option Addr} {c : Nat} {m : List (ByteArray × T)} (h : OwnM w B A c m) : m.length ≤ c ∧ c ≤ maxLen := by
  obtain ⟨xs, ⟨_, hc⟩, _⟩ := h
  rcases hc with ⟨e, h0⟩ | ⟨g, cap, cur, e, h1, h2, h3, h4, _⟩
  · simp at e
    rw [e.2.2, h0]
    exact ⟨Nat.le_refl _, by unfold maxLen; omega⟩
  · simp at e
    rw [e.2]
    exact ⟨h3, h4⟩
theorem OwnM.cells {w : World} {B : Nat} {A : Option Addr} {c : Nat} {m : List (ByteArray × T)} (h : OwnM w B A c m) {i : Nat} (hi : i < m.length) :
    ∃ g cur r, A = some ⟨g, 0, none⟩ ∧ B ≤ g ∧ Blk w g 118 cur ∧ i * 7 + 7 ≤ cur.size ∧ (.string m[i].1 :: r).length = 7 ∧ cellsAt w g (i * 7) (.string m[i].1 :: r) ∧ m[i].1.size ≤ 140737488351232 ∧ RepT w (fun b => B ≤ b ∧ g ≠ b) (.agg r.toArray) m[i].2 := by
  obtain ⟨xs, ⟨hl, hc⟩, _, h3⟩ := h
  obtain ⟨r, e, hz, hr⟩ := h3 i hi
  rcases hc with ⟨e', h0⟩ | ⟨g, cap, cur, e', h1, h2, hn, hm, hs, ht⟩
  · omega
  · simp at e'
    obtain ⟨rfl, rfl⟩ := e'
    have hfit : i * 7 + 7 ≤ cur.size := by
      rw [hs]
      have : (i + 1) * 7 ≤ c * 7 := Nat.mul_le_mul_right _ (by omega)
      omega
    refine ⟨g, cur, r, rfl, h1, h2, hfit, ?_, fun j u hu => ?_, hz, hr.weak (fun b hb _ => ⟨hb.1, fun e => hb.2 (by rw [e]; rfl)⟩)⟩
    · rw [← e, List.length_take, List.length_drop, hl]; omega
    · have hb : Blk w g 118 cur := h2
      rw [hb.cell]
      have hj : j < 7 := by
        have := (List.getElem?_eq_some_iff.1 hu).1
        rw [← e] at this
        simp at this
        omega
      rw [← e, List.getElem?_take_of_lt hj, List.getElem?_drop, ← ht, List.getElem?_take_of_lt (by omega)] at hu
      simpa using hu
theorem OwnM.rep {w : World} {B : Nat} {A : Option Addr} {c : Nat} {m : List (ByteArray × T)} (h : OwnM w B A c m) : RepM w (fun b => B ≤ b) A m := by
  intro i hi
  obtain ⟨g, cur, r, e, h1, h2, _, _, h3, h4, h5⟩ := h.cells hi
  exact ⟨g, 0, r, e, h1, h4, by rw [Nat.zero_add]; exact h3, h5.weak (fun b hb _ => hb.1)⟩

theorem tree_one {w : World} {S : Nat → Prop} {r : List Value} {t : T} (h : RepT w S (.agg r.toArray) t) : r.length = 6 ∧ ∀ u ∈ r, u.oneCell' = true := by
  obtain ⟨la, lc, ma, mc, hv, -⟩ := h.inv
  have := agg_list hv
  subst this
  exact ⟨rfl, by simp [Value.oneCell']⟩

theorem elems_drop {xs es : List Value} {i k : Nat} (hl : xs.length = k * 7) (he : es.length = 7) (hi : i ≤ k) (j : Nat) :
    ((xs.take (i * 7) ++ es ++ xs.drop (i * 7)).drop (j * 7)).take 7 = if j < i then (xs.drop (j * 7)).take 7 else if j = i then es else (xs.drop ((j - 1) * 7)).take 7 := by
  have hp : (xs.take (i * 7)).length = i * 7 := by rw [List.length_take]; omega
  rw [List.append_assoc]
  split
  · next h =>
    rw [List.drop_append_of_le_length (by omega), List.take_append_of_le_length (by rw [List.length_drop]; omega), List.drop_take, List.take_take, show min 7 (i * 7 - j * 7) = 7 by omega]
  · next h =>
    rw [List.drop_append, List.drop_of_length_le (by omega), List.nil_append, hp, List.drop_append]
    split
    · next h2 =>
      subst h2
      rw [Nat.sub_self, List.drop_zero, List.take_append_of_le_length (by omega), List.take_of_length_le (by omega)]
    · next h2 =>
      rw [List.drop_of_length_le (by omega), List.nil_append, List.drop_drop, he, show i * 7 + (j * 7 - i * 7 - 7) = (j - 1) * 7 by omega]

theorem ins_get {m : List (ByteArray × T)} {k : ByteArray} {t : T} {i j : Nat} (hs : Srch m k i false) (hj : j < (ins m k t).length) :
    (∃ h : j < i ∧ j < m.length, (ins m k t)[j] = m[j]'h.2) ∨ (j = i ∧ (ins m k t)[j] = (k, t)) ∨ ∃ h : i < j ∧ j - 1 < m.length, (ins m k t)[j] = m[j - 1]'h.2 := by
  have e := List.getElem?_eq_getElem hj
  generalize (ins m k t)[j] = y at e
  rw [ins_new t hs] at e hj
  have hi := hs.1
  have hp : (m.take i).length = i := by rw [List.length_take]; omega
  rcases Nat.lt_trichotomy j i with h | h | h
  · left
    rw [List.getElem?_append_left (by omega), List.getElem?_take_of_lt h, List.getElem?_eq_getElem (by omega)] at e
    exact ⟨⟨h, by omega⟩, by injection e with e; exact e.symm⟩
  · right; left
    rw [List.getElem?_append_right (by omega), hp, h, Nat.sub_self] at e
    simp at e
    exact ⟨h, e.symm⟩
  · right; right
    rw [List.length_append, hp] at hj
    simp at hj
    rw [List.getElem?_append_right (by omega), hp, show j - i = (j - 1 - i) + 1 by omega, List.getElem?_cons_succ, List.getElem?_drop, show i + (j - 1 - i) = j - 1 by omega, List.getElem?_eq_getElem (by omega)] at e
    exact ⟨⟨h, by omega⟩, by injection e with e; exact e.symm⟩

/-- Element i's value written anew. -/
theorem own_set {w : World} {B g i c : Nat} {m : List (ByteArray × T)} {k : ByteArray} {t : T} {c0 c1 c2 c3 c4 c5 : Value} (h : OwnM w B (some ⟨g, 0, none⟩) c m) (hs : Srch m k i true)
    (hr : RepT w (fun b => B ≤ b ∧ g ≠ b) (.agg #[c0, c1, c2, c3, c4, c5]) t) : OwnM (set6 w g (i * 7 + 1) c0 c1 c2 c3 c4 c5) B (some ⟨g, 0, none⟩) c (ins m k t) := by
  obtain ⟨hi, hik⟩ := hs.2.2.2.1 rfl
  rw [ins_found t hs]
  obtain ⟨xs, h1, h2, h3⟩ := h
  obtain ⟨hl, hc⟩ := h1
  rcases hc with ⟨e', h0⟩ | ⟨g', cap, cur, e', hB, hb, hn, hm, hsz, ht⟩
  · omega
  simp at e'
  obtain ⟨rfl, rfl⟩ := e'
  have hb' : Blk w g 118 cur := hb
  have hfit : i * 7 + 7 ≤ cur.size := by
    rw [hsz]
    have : (i + 1) * 7 ≤ c * 7 := Nat.mul_le_mul_right _ (by omega)
    omega
  obtain ⟨cur', q1, q2, q3, q4⟩ := Blk.store6 (o := i * 7 + 1) c0 c1 c2 c3 c4 c5 hb' (by omega)
  obtain ⟨hrl, hr1⟩ := tree_one (r := [c0, c1, c2, c3, c4, c5]) hr
  obtain ⟨r0, e0, hz0, -⟩ := h3 i hi
  have hmove : ∀ {v : Value} {t' : T}, RepT w (fun b => B ≤ b ∧ g ≠ b) v t' → RepT (set6 w g (i * 7 + 1) c0 c1 c2 c3 c4 c5) (fun b => B ≤ b ∧ g ≠ b) v t' := fun hR =>
    hR.mono (fun b hb _ => hb) (fun b o hb hlt => World.cell?_of_block (a := ⟨b, o, none⟩) (set6_heap (fun e => hb.2 e.symm)))
  have hcell : ∀ p, p < m.length → ∀ j, j < 7 → (xs[p * 7 + j]? = cur[p * 7 + j]?) := fun p hp j hj => by
    rw [← ht, List.getElem?_take_of_lt (by omega), Array.getElem?_toList]
  have hx7 : ∀ p, p < m.length → ∀ j, j < 7 → (cur'.toList.take (m.length * 7))[p * 7 + j]? = cur'[p * 7 + j]? := fun p hp j hj => by
    rw [List.getElem?_take_of_lt (by omega), Array.getElem?_toList]
  have hnew : ((cur'.toList.take (m.length * 7)).drop (i * 7)).take 7 = .string k :: [c0, c1, c2, c3, c4, c5] := by
    refine List.ext_getElem? fun j => ?_
    rcases Nat.lt_or_ge j 7 with hj | hj
    · rw [List.getElem?_take_of_lt hj, List.getElem?_drop, hx7 i hi j hj]
      match j, hj with
      | 0, _ =>
        rw [q4 _ (by omega), ← hcell i hi 0 (by omega), Nat.add_zero]
        have := congrArg (fun l => l[0]?) e0
        simp only [List.getElem?_take_of_lt (show 0 < 7 by omega), List.getElem?_drop, Nat.add_zero] at this
        rw [this, hik]
        rfl
      | j + 1, hj =>
        rw [show i * 7 + (j + 1) = i * 7 + 1 + j by omega, q3 j (by omega)]
        rfl
    · rw [List.getElem?_eq_none (by rw [List.length_take]; omega), List.getElem?_eq_none (by simpa using hj)]
  have hold : ∀ p, p < m.length → p ≠ i → ((cur'.toList.take (m.length * 7)).drop (p * 7)).take 7 = (xs.drop (p * 7)).take 7 := fun p hp hpi => by
    refine List.ext_getElem? fun j => ?_
    rcases Nat.lt_or_ge j 7 with hj | hj
    · rw [List.getElem?_take_of_lt hj, List.getElem?_drop, hx7 p hp j hj, List.getElem?_take_of_lt hj, List.getElem?_drop, hcell p hp j hj]
      exact q4 _ (by omega)
    · rw [List.getElem?_eq_none (by rw [List.length_take]; omega), List.getElem?_eq_none (by rw [List.length_take]; omega)]
  have hlen : (m.set i (k, t)).length = m.length := by simp
  have hcz : cur'.size = c * 7 := q2.trans hsz
  refine ⟨cur'.toList.take (m.length * 7), ⟨?_, Or.inr ⟨g, c, cur', by rw [hlen], hB, q1, by rw [hlen]; exact hn, hm, hcz, by rw [hlen]⟩⟩, fun u hu => ?_, fun p hp => ?_⟩
  · have h7 : cur'.toList.length = c * 7 := by simpa using hcz
    rw [hlen, List.length_take, h7]
    have : m.length * 7 ≤ c * 7 := Nat.mul_le_mul_right _ hn
    omega
  · obtain ⟨q, hq, hqu⟩ := List.getElem_of_mem hu
    have hq' : q < m.length * 7 := by rw [List.length_take] at hq; omega
    have hqs : (cur'.toList.take (m.length * 7))[q]? = some u := by rw [List.getElem?_eq_getElem hq, hqu]
    rw [List.getElem?_take_of_lt hq', Array.getElem?_toList] at hqs
    rcases Nat.lt_or_ge q (i * 7 + 1) with hlt | hge
    · rw [q4 q (by omega)] at hqs
      refine h2 u (List.mem_iff_getElem?.2 ⟨q, ?_⟩)
      rw [← ht, List.getElem?_take_of_lt hq', Array.getElem?_toList]
      exact hqs
    · rcases Nat.lt_or_ge q (i * 7 + 7) with hlt2 | hge2
      · have := q3 (q - (i * 7 + 1)) (by omega)
        rw [show i * 7 + 1 + (q - (i * 7 + 1)) = q by omega, hqs] at this
        exact hr1 u (List.mem_iff_getElem?.2 ⟨_, this.symm⟩)
      · rw [q4 q (by omega)] at hqs
        refine h2 u (List.mem_iff_getElem?.2 ⟨q, ?_⟩)
        rw [← ht, List.getElem?_take_of_lt hq', Array.getElem?_toList]
        exact hqs
  · rw [hlen] at hp
    by_cases hpi : p = i
    · subst hpi
      simp only [List.getElem_set_self]
      exact ⟨_, hnew, by rw [← hik]; exact hz0, (hmove hr).weak (fun b hb _ => ⟨hb.1, fun e => hb.2 (by simpa [Value.ownBlock] using e)⟩)⟩
    · rw [List.getElem_set_ne (Ne.symm hpi)]
      obtain ⟨r', e1, e2, e3⟩ := h3 p hp
      refine ⟨r', (hold p hp hpi).trans e1, e2, ?_⟩
      have e3' := e3.weak (S' := fun b => B ≤ b ∧ g ≠ b) (fun b hb _ => ⟨hb.1, fun e => hb.2 (by rw [e]; rfl)⟩)
      exact (hmove e3').weak (fun b hb _ => ⟨hb.1, fun e => hb.2 (by simpa [Value.ownBlock] using e)⟩)

end Go.Proofs.YtnblmhfgmehnnaaGreatDoor

/- Rows of elements of any kind: what a slice reads as, and rows of the call's own that grow by append. -/
namespace Go.Proofs.YtnblmhfgmehnnaaGreatDoor
open Go.RowKit Go.Lib

/-- A kind of element: its type's number, its slice's, how many cells and bytes it has, and how its cells read. -/
structure Elt (α : Type) where
  ty : TypeId
  slt : TypeId
  sz : Nat
  bytes : Nat
  zero : Value
  R : World → (Nat → Prop) → List Value → α → Prop
  len : ∀ {w S cs x}, R w S cs x → cs.length = sz
  one : ∀ {w S cs x}, R w S cs x → ∀ u ∈ cs, u.oneCell' = true
  mono : ∀ {w w' : World} {S S' : Nat → Prop} {cs x}, R w S cs x → (∀ b, S b → b < w.heap.size → S' b) → (∀ b o, S b → b < w.heap.size → w'.cell? ⟨b, o, none⟩ = w.cell? ⟨b, o, none⟩) → R w' S' cs x
  pos : 0 < sz
  hund : Tryz.prog.underlying slt = some (.slice ty)
  hinfo : (Tryz.prog.info? ty).map (fun i => (i.zero, i.size, i.bytes)) = some (some zero, sz, bytes)
  hzero : zero.cells.size = sz

section
variable {α : Type} (E : Elt α)
/-- The elements of a slice. -/
def RepE (w : World) (S : Nat → Prop) (a : Option Addr) (l : List α) : Prop :=
  ∀ i (h : i < l.length), ∃ b o cs, a = some ⟨b, o, none⟩ ∧ S b ∧ cellsAt w b (o + i * E.sz) cs ∧ E.R w S cs l[i]
/-- A row of the call's own; what its elements lead to lies in S, and not in the row. -/
def OwnE (w : World) (B : Nat) (S : Nat → Prop) (A : Option Addr) (c : Nat) (l : List α) : Prop :=
  ∃ xs, w.ownsRow B E.ty E.sz (.slice A l.length c) l.length xs ∧ (∀ u ∈ xs, u.oneCell' = true) ∧
    ∀ i (hi : i < l.length), E.R w (fun b => S b ∧ Value.ownBlock (.slice A l.length c) ≠ some b) ((xs.drop (i * E.sz)).take E.sz) l[i]
end

section
variable {α : Type} {E : Elt α} {w w' : World} {S S' : Nat → Prop} {a A : Option Addr} {B c : Nat} {l : List α}

theorem Elt.keep {cs : List Value} {x : α} (h : E.R w S cs x) (hb : Below w.heap.size w w') : E.R w' S cs x := E.mono h (fun _ h _ => h) fun _ _ _ hlt => hb.cell hlt
theorem Elt.weak {cs : List Value} {x : α} (h : E.R w S cs x) (hS : ∀ b, S b → b < w.heap.size → S' b) : E.R w S' cs x := E.mono h hS fun _ _ _ _ => rfl

theorem RepE.mono (h : RepE E w S a l) (hS : ∀ b, S b → b < w.heap.size → S' b) (hw : ∀ b o, S b → b < w.heap.size → w'.cell? ⟨b, o, none⟩ = w.cell? ⟨b, o, none⟩) : RepE E w' S' a l := by
  intro i hi
  obtain ⟨b, o, cs, e, hb, hc, hr⟩ := h i hi
  have hlt : b < w.heap.size := by
    have hl := E.len hr
    have hp := E.pos
    match cs, hl with
    | c :: cs, _ => exact hc.lt
    | [], hl => simp at hl; omega
  exact ⟨b, o, cs, e, hS b hb hlt, hc.keep fun i => hw _ _ hb hlt, E.mono hr hS hw⟩
theorem RepE.keep (h : RepE E w S a l) (hb : Below w.heap.size w w') : RepE E w' S a l := h.mono (fun _ h _ => h) fun _ _ _ hlt => hb.cell hlt
theorem RepE.weak (h : RepE E w S a l) (hS : ∀ b, S b → b < w.heap.size → S' b) : RepE E w S' a l := h.mono hS fun _ _ _ _ => rfl
theorem RepE.nil : RepE E w S a [] := fun i hi => by simp at hi

theorem OwnE.nil : OwnE E w B S none 0 [] := ⟨[], ⟨by simp, Or.inl ⟨rfl, rfl⟩⟩, by simp, fun i hi => by simp at hi⟩
theorem OwnE.own (h : OwnE E w B S A c l) : ∀ g, Value.ownBlock (.slice A l.length c) = some g → B ≤ g ∧ g < w.heap.size := by
  obtain ⟨xs, ⟨_, hc⟩, _⟩ := h
  intro g hg
  rcases hc with ⟨e, _⟩ | ⟨g', cap, cur, e, h1, h2, _⟩
  · rw [e] at hg; cases hg
  · rw [e] at hg
    simp [Value.ownBlock] at hg
    subst hg
    exact ⟨h1, Blk.lt h2⟩
theorem OwnE.ne (h : OwnE E w B S A c l) {k : Nat} (hk : k < B ∨ w.heap.size ≤ k) : Value.ownBlock (.slice A l.length c) ≠ some k := fun e => by
  have := h.own k e
  omega
theorem OwnE.mono (h : OwnE E w B S A c l) (hg : ∀ g, Value.ownBlock (.slice A l.length c) = some g → w'.heap[g]? = w.heap[g]?) (hS : ∀ b, S b → b < w.heap.size → Value.ownBlock (.slice A l.length c) ≠ some b → S' b)
    (hw : ∀ b o, S b → b < w.heap.size → Value.ownBlock (.slice A l.length c) ≠ some b → w'.cell? ⟨b, o, none⟩ = w.cell? ⟨b, o, none⟩) : OwnE E w' B S' A c l := by
  obtain ⟨xs, h1, h2, h3⟩ := h
  exact ⟨xs, ownsRow_of h1 hg, h2, fun i hi => E.mono (h3 i hi) (fun b hb hlt => ⟨hS b hb.1 hlt hb.2, hb.2⟩) (fun b o hb hlt => hw b o hb.1 hlt hb.2)⟩
theorem OwnE.keep (h : OwnE E w B S A c l) (hb : Below w.heap.size w w') : OwnE E w' B S A c l :=
  h.mono (fun g hg => hb.block g (h.own g hg).2) (fun _ h _ _ => h) (fun _ _ _ hlt _ => hb.cell hlt)
theorem OwnE.weak (h : OwnE E w B S A c l) (hS : ∀ b, S b → b < w.heap.size → S' b) : OwnE E w B S' A c l :=
  h.mono (fun _ _ => rfl) (fun b hb hlt _ => hS b hb hlt) (fun _ _ _ _ _ => rfl)
/-- A store into a block that is neither the row nor anything that its elements lead to. -/
theorem OwnE.far (h : OwnE E w B S A c l) {p : Addr} (u : Value) (hp : ∀ g, Value.ownBlock (.slice A l.length c) = some g → g ≠ p.block) (hS : ¬ S p.block) : OwnE E (w.setCell p u) B S A c l :=
  h.mono (fun g hg => Below.heap_setCell _ _ _ g (hp g hg)) (fun _ h _ _ => h) (fun b o hb _ _ => World.cell?_of_block (a := ⟨b, o, none⟩) (Below.heap_setCell _ _ _ b (fun e => hS (e ▸ hb))))
theorem OwnE.len (h : OwnE E w B S A c l) : l.length ≤ c ∧ c ≤ maxLen := by
  obtain ⟨xs, ⟨_, hc⟩, _⟩ := h
  rcases hc with ⟨e, h0⟩ | ⟨g, cap, cur, e, h1, h2, h3, h4, _⟩
  · simp at e
    rw [e.2.2, h0]
    exact ⟨Nat.le_refl _, by unfold maxLen; omega⟩
  · simp at e
    rw [e.2]
    exact ⟨h3, h4⟩
theorem OwnE.rep (h : OwnE E w B S A c l) : RepE E w (fun b => S b ∨ B ≤ b) A l := by
  obtain ⟨xs, ⟨hl, hc⟩, _, h3⟩ := h
  intro i hi
  have hr := h3 i hi
  have hlr := E.len hr
  rcases hc with ⟨e', h0⟩ | ⟨g, cap, cur, e', h1, h2, hn, hm, hs, ht⟩
  · omega
  · simp at e'
    obtain ⟨rfl, rfl⟩ := e'
    refine ⟨g, 0, _, rfl, .inr h1, fun j u hu => ?_, E.weak hr (fun b hb _ => .inl hb.1)⟩
    have hj : j < E.sz := by
      have := (List.getElem?_eq_some_iff.1 hu).1
      omega
    have hb : Blk w g E.ty cur := h2
    rw [hb.cell, Nat.zero_add]
    rw [List.getElem?_take_of_lt hj, List.getElem?_drop, ← ht, List.getElem?_take_of_lt] at hu
    · simpa using hu
    · have : (i + 1) * E.sz ≤ l.length * E.sz := Nat.mul_le_mul_right _ hi
      rw [Nat.add_mul, Nat.one_mul] at this
      omega

theorem drop_take_append {xs ys : List Value} {n sz i : Nat} (hx : xs.length = n * sz) : (i < n → (((xs ++ ys).drop (i * sz)).take sz = (xs.drop (i * sz)).take sz)) ∧ (n ≤ i → ((xs ++ ys).drop (i * sz)).take sz = (ys.drop ((i - n) * sz)).take sz) := by
  constructor
  · intro h
    have : (i + 1) * sz ≤ n * sz := Nat.mul_le_mul_right _ h
    rw [Nat.add_mul, Nat.one_mul] at this
    rw [List.drop_append_of_le_length (by omega), List.take_append_of_le_length (by rw [List.length_drop]; omega)]
  · intro h
    have : n * sz ≤ i * sz := Nat.mul_le_mul_right _ h
    rw [List.drop_append, List.drop_of_length_le (by omega), List.nil_append, hx, ← Nat.sub_mul]

/-- append of elements to a row of the call's own. -/
theorem own_append {l2 : List α} {es : List Value} {ad : Addr} {cc ty t : Nat} (ht : t = E.slt) (h : OwnE E w B S A c l) (hbig : (l.length + l2.length) * E.bytes ≤ 140737488355328) (hmax : l.length + l2.length ≤ maxLen) (hB : B ≤ w.heap.size)
    (hlen : es.length = l2.length * E.sz) (hes : ∀ j u, es[j]? = some u → w.cell? (ad.add j) = some u)
    (hx : ∀ i (hi : i < l2.length), E.R w (fun b => S b ∧ Value.ownBlock (.slice A l.length c) ≠ some b) ((es.drop (i * E.sz)).take E.sz) l2[i]) :
    ∃ A' c' w', (Builtin.append_ #[t, t] ty #[.slice A l.length c, .slice (some ad) l2.length cc]).run Tryz.prog w = .ok (.slice A' (l ++ l2).length c') w' ∧ OwnE E w' B S A' c' (l ++ l2) ∧ w.grownBy w' (Value.ownBlock (.slice A l.length c)) := by
  subst ht
  obtain ⟨i0, hi0, hz0, hz1, hz2⟩ := info_parts E.hinfo
  obtain ⟨xs, h1, h2, h3⟩ := h
  have hone : ∀ u ∈ es, u.oneCell' = true := by
    intro u hu
    obtain ⟨j, hj, rfl⟩ := List.getElem_of_mem hu
    have hp := E.pos
    have hq : j / E.sz < l2.length := by rw [Nat.div_lt_iff_lt_mul hp]; omega
    have := E.one (hx (j / E.sz) hq) es[j] (by
      rw [List.mem_iff_getElem?]
      refine ⟨j % E.sz, ?_⟩
      rw [List.getElem?_take_of_lt (Nat.mod_lt _ hp), List.getElem?_drop, Nat.div_add_mod' j E.sz, List.getElem?_eq_getElem hj])
    exact this
  obtain ⟨v', w', hr, hown, hgr, hnl, hat⟩ := run_append_own_at (P := Tryz.prog) w B E.slt ty E.ty i0 E.zero E.sz E.bytes E.hund hi0 hz0 hz1 hz2 E.hzero E.pos (.slice A l.length c) l.length xs h1 ad l2.length cc es hlen hes hone hmax hbig hB
  have hx1 := h1.1
  obtain ⟨A', c', rfl⟩ : ∃ A' c', v' = .slice A' (l ++ l2).length c' := by
    rcases hown.2 with ⟨e, h0⟩ | ⟨g', cap', cur', e, _⟩
    · exact ⟨none, 0, by rw [e, List.length_append, h0]⟩
    · exact ⟨_, _, by rw [e, List.length_append]⟩
  have hS : ∀ b, S b ∧ Value.ownBlock (.slice A l.length c) ≠ some b → b < w.heap.size → S b ∧ Value.ownBlock (.slice A' (l ++ l2).length c') ≠ some b := fun b hb hlt => by
    refine ⟨hb.1, fun e => ?_⟩
    rcases hat with h | h
    · exact hb.2 (h.symm.trans e)
    · rw [h] at e
      injection e with e
      omega
  have hcl : ∀ b o, S b ∧ Value.ownBlock (.slice A l.length c) ≠ some b → b < w.heap.size → w'.cell? ⟨b, o, none⟩ = w.cell? ⟨b, o, none⟩ := fun b o hb hlt =>
    World.cell?_of_block (hgr.block b hlt (fun e => hb.2 e.symm))
  refine ⟨A', c', w', hr, ⟨xs ++ es, by rw [← List.length_append] at hown; exact hown, fun u hu => ?_, fun i hi => ?_⟩, hgr⟩
  · rcases List.mem_append.1 hu with h | h
    · exact h2 u h
    · exact hone u h
  · have hd := drop_take_append (ys := es) (i := i) hx1
    by_cases h : i < l.length
    · rw [hd.1 h, List.getElem_append_left h]
      exact E.mono (h3 i h) hS hcl
    · rw [hd.2 (by omega), List.getElem_append_right (by omega)]
      exact E.mono (hx (i - l.length) (by rw [List.length_append] at hi; omega)) hS hcl
end

/-- append as one step, out of the run that is known: in a region that draws its order, and in a list of operations. -/
theorem step_append_run {P : Program} {ops : Array Oper} {o : Oper} {a : Act} {w : World} {K : Act → World → Prop} {Q : Exit → Act → World → Prop} {F : Prop}
    (hg : o.guard = none) (s x : Operand) (t : TypeId) (hop : o.op = Op.call { callee := Callee.builtin Builtin.append, args := #[s, x], argTypes := #[t, t] })
    {v xv v' : Value} {w' : World} (hrun : (Builtin.append_ #[t, t] o.type #[v, xv]).run P w = .ok v' w') (hs : a.eval s = v) (hx : a.eval x = xv) (hK : K (a.put o.dst v') w') :
    if Region.wanted o (yielded ops a.tmps) = true then Oper.wp P o a w K Q else F := by
  have hw : Region.wanted o (yielded ops a.tmps) = true := by simp [Region.wanted, hg]
  rw [if_pos hw]
  unfold Oper.wp
  simp only [execOp, hop, resolve, invoke, builtin, Sem.run_bind, Sem.run_pure, Result.andThen_ok, List.map_toArray, List.map_cons, List.map_nil, hs, hx, hrun]
  exact hK
theorem wpList_append_run {P : Program} {ops : Array Oper} {rest : List Oper} {o : Oper} {a : Act} {w : World} {Q : Exit → Act → World → Prop}
    (hg : o.guard = none) (s x : Operand) (t : TypeId) (hop : o.op = Op.call { callee := Callee.builtin Builtin.append, args := #[s, x], argTypes := #[t, t] })
    {v xv v' : Value} {w' : World} (hrun : (Builtin.append_ #[t, t] o.type #[v, xv]).run P w = .ok v' w') (hs : a.eval s = v) (hx : a.eval x = xv) (hK : wpList P ops Q rest (a.put o.dst v') w') :
    wpList P ops Q (o :: rest) a w := by
  refine wpList_plain hg fun K hk => ?_
  unfold Oper.wp
  simp only [execOp, hop, resolve, invoke, builtin, Sem.run_bind, Sem.run_pure, Result.andThen_ok, List.map_toArray, List.map_cons, List.map_nil, hs, hx, hrun]
  exact hk _ _ hK

/-- Values, and pairs, as elements. -/
def eltV : Elt T where
  ty := 41
  slt := 38
  sz := 6
  bytes := 88
  zero := .agg #[.int .i64 0, .bool false, .int .i64 0, .string ⟨#[]⟩, .slice none 0 0, .slice none 0 0]
  R w S cs x := RepT w S (.agg cs.toArray) x
  len h := (tree_one h).1
  one h := (tree_one h).2
  mono h hS hw := h.mono hS hw
  pos := by decide
  hund := Tryz.underlying38
  hinfo := sclone_v_info
  hzero := rfl
theorem pair_info : (Tryz.prog.info? 118).map (fun i => (i.zero, i.size, i.bytes)) = some (some (.agg #[.string ⟨#[]⟩, .int .i64 0, .bool false, .int .i64 0, .string ⟨#[]⟩, .slice none 0 0, .slice none 0 0]), 7, 104) := by kernel_rfl
def eltP : Elt (ByteArray × T) where
  ty := 118
  slt := 39
  sz := 7
  bytes := 104
  zero := .agg #[.string ⟨#[]⟩, .int .i64 0, .bool false, .int .i64 0, .string ⟨#[]⟩, .slice none 0 0, .slice none 0 0]
  R w S cs p := ∃ r, cs = .string p.1 :: r ∧ p.1.size ≤ 140737488351232 ∧ RepT w S (.agg r.toArray) p.2
  len h := by
    obtain ⟨r, rfl, _, hr⟩ := h
    simp [(tree_one hr).1]
  one h := by
    obtain ⟨r, rfl, _, hr⟩ := h
    intro u hu
    rcases List.mem_cons.1 hu with rfl | hu
    · rfl
    · exact (tree_one hr).2 u hu
  mono h hS hw := by
    obtain ⟨r, e, hz, hr⟩ := h
    exact ⟨r, e, hz, hr.mono hS hw⟩
  pos := by decide
  hund := und_pairs
  hinfo := pair_info
  hzero := rfl

section
variable {w : World} {S : Nat → Prop} {a : Option Addr}
theorem repE_L {l : List T} : RepE eltV w S a l ↔ RepL w S a l := Iff.rfl
theorem repE_M {m : List (ByteArray × T)} : RepE eltP w S a m ↔ RepM w S a m := by
  constructor
  · intro h i hi
    obtain ⟨b, o, cs, e, hS, hc, r, rfl, hz, hr⟩ := h i hi
    exact ⟨b, o, r, e, hS, hz, hc, hr⟩
  · intro h i hi
    obtain ⟨b, o, r, e, hS, hz, hc, hr⟩ := h i hi
    exact ⟨b, o, _, e, hS, hc, r, rfl, hz, hr⟩
/-- A copy is a row of the call's own. -/
theorem own_copied {α : Type} {E : Elt α} {w w' : World} {v : Value} {S : Nat → Prop} {l : List α} {xs : List Value} (h : Copied w.heap.size E.ty E.sz l.length xs w w' v) (hl : xs.length = l.length * E.sz) (h1 : ∀ u ∈ xs, u.oneCell' = true)
    (hr : ∀ i (hi : i < l.length), E.R w S ((xs.drop (i * E.sz)).take E.sz) l[i]) : ∃ A c, v = .slice A l.length c ∧ OwnE E w' w.heap.size S A c l ∧ Below w.heap.size w w' := by
  obtain ⟨A, cap, rfl, hn, hm, hnone, hsome, hb⟩ := h
  refine ⟨A, cap, rfl, ⟨xs, ⟨hl, ?_⟩, h1, fun i hi => E.mono (hr i hi) (fun b hb hlt => ⟨hb, fun e => ?_⟩) (fun b o _ hlt => hb.cell hlt)⟩, hb⟩
  · cases A with
    | none =>
      obtain ⟨h0, rfl⟩ := hnone rfl
      exact .inl ⟨by rw [h0], h0⟩
    | some ad =>
      obtain ⟨g, cur, rfl, hg, hbk, hcs, htk⟩ := hsome ad rfl
      exact .inr ⟨g, cap, cur, rfl, hg, hbk, hn, hm, hcs, htk⟩
  · cases A with
    | none => cases e
    | some ad =>
      obtain ⟨g, cur, rfl, hg, _⟩ := hsome ad rfl
      injection e with e
      have : g = b := e
      omega
end

end Go.Proofs.YtnblmhfgmehnnaaGreatDoor

/- trim.add: a token behind the others, if it isn't empty; the library's trimming at blanks. -/
namespace Go.Proofs.YtnblmhfgmehnnaaGreatDoor
open Go.RowKit
attribute [local go_sem ↓] Go.wp_at_zero Go.wp_at_succ

theorem tok_info : (Tryz.prog.info? 102).map (fun i => (i.zero, i.size, i.bytes)) = some (some (.agg #[.bool false, .string ⟨#[]⟩, .int .i64 0]), 3, 32) := by kernel_rfl
/-- Tokens as elements. -/
def eltK : Elt Tok where
  ty := 102
  slt := 71
  sz := 3
  bytes := 32
  zero := .agg #[.bool false, .string ⟨#[]⟩, .int .i64 0]
  R _ _ cs x := cs = [.bool x.act, .string ⟨x.s.toArray⟩, .int .i64 x.at_] ∧ x.s.length ≤ 1000000
  len h := by rw [h.1]; rfl
  one h := by
    intro u hu
    rw [h.1] at hu
    simp only [List.mem_cons, List.not_mem_nil, or_false] at hu
    rcases hu with rfl | rfl | rfl <;> rfl
  mono h _ _ := h
  pos := by decide
  hund := Tryz.underlying71
  hinfo := tok_info
  hzero := rfl

theorem add_none' (b o i : Nat) : (⟨b, o, none⟩ : Addr).add i = ⟨b, o + i, none⟩ := by unfold Addr.add; split <;> simp_all
/-- What add hands back. -/
def AddPost (w : World) (B : Nat) (l : List Tok) (e : Ending) (w' : World) : Prop :=
  ∃ A' c', e = .returned (.slice A' l.length c') ∧ OwnE eltK w' B (fun _ => False) A' c' l ∧ Below B w w'

theorem blanks_ascii : ∀ (j : Nat) b, (⟨#[32, 9, 10]⟩ : ByteArray).data.toList[j]? = some b → b.toNat < 128 := Go.Proofs.ascii_of_all (by decide)
theorem ttrim (s : ByteArray) (w : World) (hs : s.size ≤ 1000000) : Calls Tryz.prog 55 #[.string s, .string ⟨#[32, 9, 10]⟩] w fun e w' => e = .returned (.string ⟨(Lib.trimS s.data.toList blanks).toArray⟩) ∧ Below w.heap.size w w' :=
  Any.strings_Trim_laid Tryz.lays160 (by kernel_rfl) s _ w (by omega) (by decide) blanks_ascii
theorem ttrimL (s : ByteArray) (w : World) : Calls Tryz.prog 50 #[.string s, .string ⟨#[32, 9, 10]⟩] w fun e w' => e = .returned (.string ⟨(Lib.trimLeftS s.data.toList blanks).toArray⟩) ∧ Below w.heap.size w w' :=
  Any.strings_TrimLeft_laid Tryz.lays161 (by kernel_rfl) s _ w (by decide) blanks_ascii
theorem ttrimR (s : ByteArray) (w : World) (hs : s.size ≤ 1000000) : Calls Tryz.prog 53 #[.string s, .string ⟨#[32, 9, 10]⟩] w fun e w' => e = .returned (.string ⟨(Lib.trimRightS s.data.toList blanks).toArray⟩) ∧ Below w.heap.size w w' :=
  Any.strings_TrimRight_laid Tryz.lays162 (by kernel_rfl) s _ w (by omega) (by decide) blanks_ascii

/-- One token appended to a row of the call's own: behind a block that holds it, and another one. -/
theorem tok_append {w : World} {B : Nat} {A : Option Addr} {c : Nat} {l : List Tok} {x : Tok} (hl : OwnE eltK w B (fun _ => False) A c l) (hn : l.length ≤ 1000000) (hs : x.s.length ≤ 1000000) (hB : B ≤ w.heap.size) :
    ∃ A' c' w', (Builtin.append_ #[71, 71] 71 #[.slice A l.length c, .slice (some ⟨w.heap.size + 1, 0, none⟩) 1 1]).run Tryz.prog ((w.alloc (.cells #[.bool x.act, .string ⟨x.s.toArray⟩, .int .i64 x.at_] 102)).alloc (.cells #[.bool x.act, .string ⟨x.s.toArray⟩, .int .i64 x.at_] 102)) = .ok (.slice A' (l ++ [x]).length c') w' ∧
      OwnE eltK w' B (fun _ => False) A' c' (l ++ [x]) ∧ Below B w w' := by
  have hb2 := (Below.new w (.cells #[.bool x.act, .string ⟨x.s.toArray⟩, .int .i64 x.at_] 102)).alloc (by simp) (.cells #[.bool x.act, .string ⟨x.s.toArray⟩, .int .i64 x.at_] 102)
  obtain ⟨A', c', w', h1, h2, h3⟩ := own_append (l2 := [x]) (es := [.bool x.act, .string ⟨x.s.toArray⟩, .int .i64 x.at_]) (ad := ⟨w.heap.size + 1, 0, none⟩) (cc := 1) (ty := 71) (t := 71) rfl (hl.keep hb2) (by show (l.length + 1) * 32 ≤ _; omega) (by show l.length + 1 ≤ _; unfold maxLen; omega) (by have := hb2.size; omega) rfl
    (fun j u hu => by
      rw [add_none']
      rw [(Blk.new_at (w.alloc (.cells #[.bool x.act, .string ⟨x.s.toArray⟩, .int .i64 x.at_] 102)) 102 #[.bool x.act, .string ⟨x.s.toArray⟩, .int .i64 x.at_] (n := w.heap.size + 1) (by simp)).cell]
      simpa using hu)
    (fun i hi => by
      have : i = 0 := by simpa using hi
      subst this
      exact ⟨rfl, hs⟩)
  refine ⟨A', c', w', h1, h2, ?_⟩
  have hg : ∀ g, Value.ownBlock (.slice A l.length c) = some g → B ≤ g := fun g e => (hl.own g e).1
  exact (hb2.mono hB).trans ⟨h3.os, h3.tape, h3.output, h3.size, fun b hb => h3.block b (by have := hb2.size; omega) (fun e => by have := hg b e.symm; omega)⟩

set_option maxRecDepth 100000 in
theorem tadd (B : Nat) (A : Option Addr) (c : Nat) (l : List Tok) (s : List UInt8) (k : Nat) (w : World) (hl : OwnE eltK w B (fun _ => False) A c l) (hn : l.length ≤ 1000000) (hs : s.length ≤ 1000000) (hB : B ≤ w.heap.size) :
    Calls Tryz.prog 51 #[.slice A l.length c, .agg #[.bool false, .string ⟨s.toArray⟩, .int .i64 k]] w (AddPost w B (l ++ txt s k)) := by
  by_cases h0 : s = []
  · subst h0
    have HL := Lib.hid hl
    clear hl
    have e0 : ((⟨#[]⟩ : ByteArray) == ⟨#[]⟩) = true := by decide
    go_enter Tryz.func51, Tryz.ntmps51
    go_wp2_with fail
    go_ret
    exact ⟨A, c, by simp [txt], by simpa [txt] using HL.out.keep (Below.new _ _), (Below.refl _ _).alloc hB _⟩
  · have HL := Lib.hid hl
    clear hl
    have e0 : s.toArray.toList.isEmpty = false := by simpa using h0
    have HS := Lib.hid h0
    clear h0
    obtain ⟨A', c', w', hrun, hown, hgr⟩ := tok_append (x := ⟨false, s, k⟩) HL.out hn hs hB
    have HO := Lib.hid hown; have HG := Lib.hid hgr
    clear hown hgr
    go_enter Tryz.func51, Tryz.ntmps51
    go_wp2_with (at_builtin; refine wpList_append_run rfl (.tmp 9) (.tmp 11) 71 rfl hrun rfl rfl ?_)
    go_ret
    exact ⟨A', c', by simp [txt, HS.out], by simpa [txt, HS.out] using HO.out, HG.out⟩

/-- A text that a call hands back, and old memory as it was. -/
def StrPost (w : World) (l : List UInt8) (e : Ending) (w' : World) : Prop := ∃ v : ByteArray, e = .returned (.string v) ∧ v.data.toList = l ∧ Below w.heap.size w w'
theorem strPost {p : Program} {n : Nat} {args : Array Value} {w : World} {l : List UInt8} (h : Calls p n args w fun e w' => e = .returned (.string ⟨l.toArray⟩) ∧ Below w.heap.size w w') : Calls p n args w (StrPost w l) :=
  h.mono fun _ _ ⟨he, hb⟩ => ⟨_, he, rfl, hb⟩
theorem addv (B : Nat) (A : Option Addr) (c : Nat) (l : List Tok) (v : ByteArray) (k : Nat) (w : World) (hl : OwnE eltK w B (fun _ => False) A c l) (hn : l.length ≤ 1000000) (hs : v.size ≤ 1000000) (hB : B ≤ w.heap.size) :
    Calls Tryz.prog 51 #[.slice A l.length c, .agg #[.bool false, .string v, .int .i64 k]] w (AddPost w B (l ++ txt v.data.toList k)) := tadd B A c l v.data.toList k w hl hn (by simpa using hs) hB
theorem tprefix (s p : ByteArray) (w : World) : Calls Tryz.prog 40 #[.string s, .string p] w fun e w' => e = .returned (.bool (Lib.hasPrefix s.data.toList p.data.toList)) ∧ w = w' := (Tryz.strings_HasPrefix s p w).mono fun _ _ h => ⟨h.1, h.2.symm⟩
theorem tsuffix (s p : ByteArray) (w : World) (hs : s.size ≤ 1000000) : Calls Tryz.prog 54 #[.string s, .string p] w fun e w' => e = .returned (.bool (Lib.hasSuffix s.data.toList p.data.toList)) ∧ w = w' := (Tryz.strings_HasSuffix s p w (by omega)).mono fun _ _ h => ⟨h.1, h.2.symm⟩
/-- Where two open braces stand. -/
def braceI : Option Nat → Int
  | none => -1
  | some o => o
theorem tindex (s : ByteArray) (m : Int) (w : World) (hs : s.size ≤ 1000000) (hm : w.cell? ⟨0, 0, none⟩ = some (.int .i64 m)) :
    Calls Tryz.prog 49 #[.string s, .string ⟨#[123, 123]⟩] w fun e w' => e = .returned (.int .i64 (braceI (find2 123 s.data.toList))) ∧ w = w' := by
  have h := Tryz.strings_Index s ⟨#[123, 123]⟩ m w (by omega) hm
  have e : Lib.index s.data.toList (⟨#[123, 123]⟩ : ByteArray).data.toList = braceI (find2 123 s.data.toList) := (find2_index 123 _).trans (by cases find2 123 s.data.toList <;> rfl)
  rw [e] at h
  exact h.mono fun _ _ h => ⟨h.1, h.2.symm⟩
end Go.Proofs.YtnblmhfgmehnnaaGreatDoor

/- trim.Split: the tokens of a template. -/
namespace Go.Proofs.YtnblmhfgmehnnaaGreatDoor
open Go.RowKit
attribute [local go_sem ↓] Go.wp_at_zero Go.wp_at_succ

/-- What Split hands back. -/
def SplitPost (s : ByteArray) (w : World) (e : Ending) (w' : World) : Prop :=
  (∃ toks A c, splitM (s.size + 1) s.data.toList 0 false = some toks ∧ e = .returned (.tuple #[.slice A toks.length c, .int .i64 0]) ∧ RepE eltK w' (fun b => w.heap.size ≤ b) A toks ∧ toks.length ≤ c ∧ c ≤ maxLen ∧ Below w.heap.size w w') ∨
  (splitM (s.size + 1) s.data.toList 0 false = none ∧ e = .returned (.tuple #[.slice none 0 0, .int .i64 21]) ∧ Below w.heap.size w w')

/-- How things stand at the loop's head. -/
structure SpInv (s : ByteArray) (w wr : World) (out : List Tok) (A : Option Addr) (c q : Nat) (cut : Bool) : Prop where
  at_ : q ≤ s.size
  eq : splitM (s.size + 1) s.data.toList 0 false = (splitM (s.size - q + 1) (s.data.toList.drop q) q cut).map (out ++ ·)
  own : OwnE eltK wr w.heap.size (fun _ => False) A c out
  bel : Below w.heap.size w wr
  few : out.length ≤ q

/-- One round, plainly: a text, an action, and the rest. -/
theorem step_eq {L : List UInt8} {q o e p E n : Nat} {cut : Bool} (hq : q < L.length) (hf : find2 123 (L.drop q) = some o) (hp : p = q + o) (hc : clos false (L.drop (p + 2)) = some e) (hE : E = e + (p + 2)) :
    splitM (n + 1) (L.drop q) q cut = (splitM n (L.drop (E + 2)) (E + 2) (dashR ((L.drop (p + 2)).take e))).map (fun r => txt (behind ((L.drop (p + 2)).take e) (ahead cut ((L.drop q).take o))) (q + (o - (ahead cut ((L.drop q).take o)).length)) ++ (actn (body ((L.drop (p + 2)).take e)) p ++ r)) := by
  subst hp hE
  have h0 : L.drop q ≠ [] := fun h => by have := congrArg List.length h; simp at this; omega
  have h1 : (L.drop q).drop (o + 2) = L.drop (q + o + 2) := by rw [List.drop_drop]; congr 1
  have h2 : (L.drop q).drop (o + 2 + (e + 2)) = L.drop (e + (q + o + 2) + 2) := by rw [List.drop_drop]; congr 1; omega
  have h3 : q + (o + 2 + (e + 2)) = e + (q + o + 2) + 2 := by omega
  rw [splitM, if_neg h0, hf]
  simp only [h1, hc, h2, h3]
theorem step_none {L : List UInt8} {q o p n : Nat} {cut : Bool} (hq : q < L.length) (hf : find2 123 (L.drop q) = some o) (hp : p = q + o) (hc : clos false (L.drop (p + 2)) = none) : splitM (n + 1) (L.drop q) q cut = none := by
  have h0 : L.drop q ≠ [] := fun h => by have := congrArg List.length h; simp at this; omega
  have h1 : (L.drop q).drop (o + 2) = L.drop (p + 2) := by rw [List.drop_drop, hp]; congr 1
  rw [splitM, if_neg h0, hf]
  simp only [h1, hc]
theorem SpInv.next {s : ByteArray} {w wr wx : World} {out : List Tok} {A A2 : Option Addr} {c c2 q o e p E b : Nat} {cut : Bool} {raw v2 t : List UInt8} (h : SpInv s w wr out A c q cut) (hq : q < s.size) (hf : find2 123 (s.data.toList.drop q) = some o) (hp : p = q + o) (hc : clos false (s.data.toList.drop (p + 2)) = some e)
    (hE : E = e + (p + 2)) (hE2 : E + 2 ≤ s.size) (hraw : raw = (s.data.toList.drop (p + 2)).take e) (ht : t = ahead cut ((s.data.toList.drop q).take o)) (hv2 : v2 = behind raw t) (hb : b = q + (o - t.length))
    (hown : OwnE eltK wx w.heap.size (fun _ => False) A2 c2 (out ++ txt v2 b ++ actn (body raw) p)) (hbel : Below w.heap.size w wx) : SpInv s w wx (out ++ txt v2 b ++ actn (body raw) p) A2 c2 (E + 2) (dashR raw) := by
  have hlen : (txt v2 b).length ≤ 1 := by unfold txt; split <;> simp
  have hlen2 : (actn (body raw) p).length ≤ 1 := by unfold actn; split <;> simp
  refine ⟨hE2, ?_, hown, hbel, ?_⟩
  · have hL : s.data.toList.length = s.size := (size_list s).symm
    rw [h.eq, step_eq (by omega) hf hp hc hE, splitM_fuel (s.size - q) (s.size - (E + 2) + 1) (by rw [List.length_drop]; omega) (by rw [List.length_drop]; omega), ← hraw, ← ht, ← hv2, ← hb, Option.map_map]
    congr 1
    funext r
    simp
  · have := h.few
    simp only [List.length_append]
    omega
theorem tok_appendv {w : World} {B : Nat} {A : Option Addr} {c : Nat} {l : List Tok} (t : Bool) (v : ByteArray) (k : Nat) (hl : OwnE eltK w B (fun _ => False) A c l) (hn : l.length ≤ 1000000) (hs : v.size ≤ 1000000) (hB : B ≤ w.heap.size) :
    ∃ A' c' w', (Builtin.append_ #[71, 71] 71 #[.slice A l.length c, .slice (some ⟨w.heap.size, 0, none⟩) 1 1]).run Tryz.prog (w.alloc (.cells #[.bool t, .string v, .int .i64 k] 102)) = .ok (.slice A' (l ++ [(⟨t, v.data.toList, k⟩ : Tok)]).length c') w' ∧
      OwnE eltK w' B (fun _ => False) A' c' (l ++ [(⟨t, v.data.toList, k⟩ : Tok)]) ∧ Below B w w' := by
  have hb2 := Below.new w (.cells #[.bool t, .string v, .int .i64 k] 102)
  obtain ⟨A', c', w', h1, h2, h3⟩ := own_append (l2 := [(⟨t, v.data.toList, k⟩ : Tok)]) (es := [.bool t, .string v, .int .i64 k]) (ad := ⟨w.heap.size, 0, none⟩) (cc := 1) (ty := 71) (t := 71) rfl (hl.keep hb2) (by show (l.length + 1) * 32 ≤ _; omega) (by show l.length + 1 ≤ _; unfold maxLen; omega) (by have := hb2.size; omega) rfl
    (fun j u hu => by
      rw [add_none']
      rw [(Blk.new w 102 #[.bool t, .string v, .int .i64 k]).cell]
      simpa using hu)
    (fun i hi => by
      have : i = 0 := by simpa using hi
      subst this
      exact ⟨rfl, by rw [size_list] at hs; exact hs⟩)
  refine ⟨A', c', w', h1, h2, ?_⟩
  have hg : ∀ g, Value.ownBlock (.slice A l.length c) = some g → B ≤ g := fun g e => (hl.own g e).1
  exact (hb2.mono hB).trans ⟨h3.os, h3.tape, h3.output, h3.size, fun b hb => h3.block b (by have := hb2.size; omega) (fun e => by have := hg b e.symm; omega)⟩
theorem suffix_two {l : List UInt8} {a b : UInt8} (h : Lib.hasSuffix l [a, b] = true) : 2 ≤ l.length := by
  have : [a, b] <:+ l := by simpa [Lib.hasSuffix] using h
  simpa using this.length_le

set_option maxRecDepth 100000 in
set_option maxHeartbeats 4000000 in
theorem tsplit (s : ByteArray) (hs : s.size ≤ 65536) (w : World) (m : Int) (hm : w.cell? ⟨0, 0, none⟩ = some (.int .i64 m)) :
    Calls Tryz.prog 27 #[.string s] w (SplitPost s w) := by
  have HM := Lib.hid hm
  clear hm
  have hs2 : (s.size : Int) ≤ 65536 := by omega
  go_enter Tryz.func27, Tryz.ntmps27
  go_wp2_with fail
  go_loopw [4, 5, 6] (fun x4 x5 x6 wr => ∃ (out : List Tok) (A : Option Addr) (c q : Nat) (cut : Bool), x4 = .slice A out.length c ∧ x5 = .bool cut ∧ x6 = .int .i64 q ∧ q ≤ s.size ∧ Hid (SpInv s w wr out A c q cut)) (fun _ _ x6 _ => s.size - (intOf x6).toNat)
  case atStart => exact ⟨[], none, 0, 0, false, rfl, rfl, rfl, Nat.zero_le _, ⟨Nat.zero_le _, by simp, OwnE.nil, Below.refl _ _, by simp⟩⟩
  case round =>
    obtain ⟨out, A, c, q, cut, rfl, rfl, rfl, hq, hI⟩ := hrel
    have HI := Lib.hid hI.out
    clear hI
    by_cases hlt : q < s.size
    · have h0 : (0 : Int) ≤ q := by omega
      have h1 : (q : Int) ≤ s.size := by omega
      obtain ⟨u1, hu1⟩ : ∃ u, u = s.extract q s.size := ⟨_, rfl⟩
      have hl1 : u1.data.toList = s.data.toList.drop q := by rw [hu1, ext_list]
      have hz1 : u1.size + q = s.size := by rw [size_list, hl1, List.length_drop, ← size_list]; omega
      have HL1 := Lib.hid hl1
      have HZ1 := Lib.hid hz1
      have hu0 : u1.size ≤ 65536 := by omega
      have hmw : wr.cell? ⟨0, 0, none⟩ = some (.int .i64 m) := (HI.out.bel.cell (p := ⟨0, 0, none⟩) (block_lt_of_cell HM.out)).trans HM.out
      have C1 := Lib.hid (tindex u1 m wr (by omega) hmw)
      have HU1 := Lib.hid hu1
      clear hl1 hz1 hu1 hmw
      go_wp2_with fail
      rw [← HU1.out]
      refine C1.out.mono ?_
      rintro e w' ⟨rfl, rfl⟩
      cases hf : find2 123 u1.data.toList with
      | none =>
        have HF := Lib.hid hf
        clear hf C1
        have hn1 : braceI none = -1 := rfl
        rw [hn1]
        clear hn1
        have HE := Lib.hid (show splitM (s.size + 1) s.data.toList 0 false = some (out ++ txt (ahead cut u1.data.toList) (q + (u1.size - (ahead cut u1.data.toList).length))) from by
          rw [HI.out.eq, ← HL1.out, splitM_plain HF.out, size_list]; rfl)
        cases cut
        · go_wp2_with fail
          rw [← HU1.out]
          refine (addv w.heap.size A c out u1 q wr HI.out.own (by have := HI.out.few; omega) (by omega) HI.out.bel.size).mono ?_
          rintro e w' ⟨A2, c2, rfl, hown, hb⟩
          have HO := Lib.hid hown; have HB := Lib.hid hb
          clear hown hb
          go_wp2_with fail
          exact bodyPost_ret (v := .tuple #[.slice A2 (out ++ txt u1.data.toList q).length c2, .int .i64 0]) (by simp [results, Tryz.results27, go_sem]) rfl
            (.inl ⟨_, A2, c2, by rw [HE.out, ahead_false, ← size_list, Nat.sub_self]; rfl, rfl, HO.out.rep.weak (fun b hb _ => hb.elim (fun h => h.elim) id), HO.out.len.1, HO.out.len.2, HI.out.bel.trans HB.out⟩)
        · go_wp2_with fail
          rw [← HU1.out]
          refine (strPost (ttrimL u1 wr)).mono ?_
          rintro e w1 ⟨v, rfl, hv, hb1⟩
          have hvz : v.size ≤ u1.size := by rw [size_list, hv, size_list]; exact (List.dropWhile_sublist _).length_le
          have HV := Lib.hid hv; have HB1 := Lib.hid hb1
          clear hv hb1
          have hz3 : (0 : Int) ≤ (u1.size : Int) - v.size := by omega
          have hz4 : (u1.size : Int) - v.size ≤ 65536 := by omega
          go_wp2_with fail
          have hnum : (q : Int) + ((u1.size : Int) - v.size) = ((q + (u1.size - v.size) : Nat) : Int) := by omega
          rw [hnum]
          refine (addv w.heap.size A c out v (q + (u1.size - v.size)) w1 (HI.out.own.keep HB1.out) (by have := HI.out.few; omega) (by omega) (by have := HI.out.bel.size; have := HB1.out.size; omega)).mono ?_
          rintro e w' ⟨A2, c2, rfl, hown, hb⟩
          have HO := Lib.hid hown; have HB := Lib.hid hb
          clear hown hb
          go_wp2_with fail
          exact bodyPost_ret (v := .tuple #[.slice A2 (out ++ txt v.data.toList (q + (u1.size - v.size))).length c2, .int .i64 0]) (by simp [results, Tryz.results27, go_sem]) rfl
            (.inl ⟨_, A2, c2, by rw [HE.out, show ahead true u1.data.toList = v.data.toList from HV.out.symm, ← size_list], rfl, HO.out.rep.weak (fun b hb _ => hb.elim (fun h => h.elim) id), HO.out.len.1, HO.out.len.2, (HI.out.bel.trans (HB1.out.mono HI.out.bel.size)).trans HB.out⟩)
      | some o =>
        have hbo := find2_bound hf
        have hno : o + 2 ≤ u1.size := by rw [size_list]; exact hbo
        have hno1 : braceI (some o) = (o : Int) := rfl
        rw [hno1]
        have HF := Lib.hid hf
        clear hf C1 hbo hno1
        have ho1 : (0 : Int) ≤ (o : Int) := by omega
        have ho2 : (o : Int) ≤ ((s.size - q : Nat) : Int) := by have := HZ1.out; omega
        have ho4 : o ≤ s.size - q := by have := HZ1.out; omega
        obtain ⟨u2, hu2⟩ : ∃ u, u = u1.extract 0 o := ⟨_, rfl⟩
        have hl2 : u2.data.toList = u1.data.toList.take o := by rw [hu2, Lib.extract_data]; simp
        have hz2 : u2.size = o := by rw [size_list, hl2, List.length_take, ← size_list]; omega
        have HL2 := Lib.hid hl2
        have HZ2 := Lib.hid hz2
        have HU2 := Lib.hid hu2
        have hu2z : u2.size ≤ 65536 := by omega
        clear hl2 hz2 hu2
        go_upto_if 33 with (fail)
        rw [← HU1.out]
        rw [← HU2.out]
        go_cut [8, 9, 10] (fun x8 x9 _ wx => ∃ (v : ByteArray) (b : Nat), x8 = .string v ∧ x9 = .int .i64 b ∧ v.size ≤ o ∧ b ≤ 65536 ∧ Hid (v.data.toList = ahead cut u2.data.toList) ∧ Hid (b = q + (o - v.size)) ∧ Hid (Below wr.heap.size wr wx))
        case first =>
          cases cut
          · go_wp2_with fail
            go_meet
            exact ⟨u2, q, rfl, rfl, by have := HZ2.out; omega, by omega, Lib.hid rfl, Lib.hid (by have := HZ2.out; omega), Lib.hid (Below.refl _ _)⟩
          · go_wp2_with fail
            refine (strPost (ttrimL u2 wr)).mono ?_
            rintro e w1 ⟨v, rfl, hv, hb1⟩
            have hvz : v.size ≤ u2.size := by rw [size_list, hv, size_list]; exact (List.dropWhile_sublist _).length_le
            have HV := Lib.hid hv; have HB1 := Lib.hid hb1
            clear hv hb1
            have hz3 : (0 : Int) ≤ (u2.size : Int) - v.size := by omega
            have hz4 : (u2.size : Int) - v.size ≤ 65536 := by omega
            have hz5 := HZ2.out
            have HZ5 := Lib.hid (show v.size ≤ o ∧ q + (u2.size - v.size) ≤ 65536 from ⟨by omega, by have := HZ1.out; omega⟩)
            clear hz5
            go_wp2_with fail
            go_meet
            exact ⟨v, q + (u2.size - v.size), rfl, by congr 1; omega, HZ5.out.1, HZ5.out.2, HV.out, Lib.hid (show q + (u2.size - v.size) = q + (o - v.size) from by rw [HZ2.out]), HB1.out⟩
        case rest =>
          obtain ⟨v, b, rfl, rfl, hvo, hb6, hv, hbq, hb1⟩ := hcut
          have HV := Lib.hid hv.out; have HBQ := Lib.hid hbq.out; have HB1 := Lib.hid hb1.out
          clear hv hbq hb1
          obtain ⟨p, hp⟩ : ∃ p : Nat, p = q + o := ⟨_, rfl⟩
          have hp2 : p + 2 ≤ s.size := by have := HZ1.out; omega
          have HP := Lib.hid hp
          have hop : (o : Int) + (q : Int) = (p : Int) := by omega
          have HOP := Lib.hid hop
          have CC := Lib.hid (tclosed s (p + 2) hp2 (by omega) wc)
          have hk : ((p : Int) + 2) = ((p + 2 : Nat) : Int) := by omega
          have HK := Lib.hid hk
          clear hp hop hk
          go_wp2_with fail
          rw [HOP.out]
          rw [HK.out]
          refine CC.out.mono ?_
          rintro e w' ⟨rfl, rfl⟩
          cases hc : clos false (s.data.toList.drop (p + 2)) with
          | none =>
            have HC := Lib.hid hc
            clear hc CC
            have hn1 : closI (p + 2) none = -1 := rfl
            rw [hn1]
            clear hn1
            go_wp2_with fail
            exact bodyPost_ret (v := .tuple #[.slice none 0 0, .int .i64 21]) (by simp [results, Tryz.results27, go_sem]) rfl
              (.inr ⟨by rw [HI.out.eq, step_none (by rw [← size_list]; exact hlt) (by rw [← HL1.out]; exact HF.out) HP.out HC.out]; rfl, rfl, HI.out.bel.trans (HB1.out.mono HI.out.bel.size)⟩)
          | some e =>
            obtain ⟨E, hE⟩ : ∃ E : Nat, E = e + (p + 2) := ⟨_, rfl⟩
            have hE2 : E + 2 ≤ s.size := by have := clos_bound _ (Nat.le_refl _) hc; rw [List.length_drop, ← size_list] at this; omega
            have hn1 : closI (p + 2) (some e) = (E : Int) := by rw [hE]; rfl
            rw [hn1]
            have hE3 : p + 2 ≤ E := by omega
            have HC := Lib.hid hc
            have HE := Lib.hid hE
            clear hc CC hn1 hE
            obtain ⟨r, hr⟩ : ∃ r, r = s.extract (p + 2) E := ⟨_, rfl⟩
            have hrl : r.data.toList = (s.data.toList.drop (p + 2)).take e := by rw [hr, Lib.extract_data, HE.out]; congr 1; omega
            have hrz : r.size + (p + 2) = E := by rw [hr, ByteArray.size_extract]; omega
            have hr6 : r.size ≤ 65536 := by omega
            have HRL := Lib.hid hrl; have HR := Lib.hid hr; have HRZ := Lib.hid hrz
            clear hrl hr hrz
            go_upto_region 23 with (fail)
            rw [← HR.out]
            go_cut [70] (fun x70 wx => x70 = .bool (dashL r.data.toList) ∧ wx = wc)
            case first =>
              by_cases h45 : r.toList = [45]
              · have HD := Lib.hid (show dashL r.data.toList = true from by rw [← ByteArray.toList_eq, h45]; rfl)
                go_wp2_with fail
                go_meet
                exact ⟨by rw [HD.out], rfl⟩
              · have HD := Lib.hid (show (dashL r.data.toList) = Lib.hasPrefix r.data.toList [45, 32] from by rw [← ByteArray.toList_eq, dashL]; simp [h45])
                have HD2 := Lib.hid (show (r.toList == [45] || Lib.hasPrefix r.data.toList [45, 32]) = dashL r.data.toList from by rw [dashL, ByteArray.toList_eq])
                go_wp2_with (go_at_call 40; refine (tprefix _ _ _).mono ?_; rintro e w' ⟨rfl, rfl⟩)
                go_meet
                exact ⟨by first | rw [HD2.out] | rw [HD.out], rfl⟩
            case rest =>
              obtain ⟨rfl, rfl⟩ := hcut
              obtain ⟨dl, hdl⟩ : ∃ d, d = dashL r.data.toList := ⟨_, rfl⟩
              have HDL := Lib.hid hdl
              rw [← hdl]
              clear hdl
              go_upto_if 70 with (fail)
              go_cut [8, 12] (fun x8 x12 wx => ∃ (v2 r1 : ByteArray), x8 = .string v2 ∧ x12 = .string r1 ∧ v2.size ≤ 65536 ∧ r1.size ≤ 65536 ∧ Hid (v2.data.toList = behind r.data.toList v.data.toList) ∧ Hid (r1.data.toList = raw1 r.data.toList) ∧ Hid (Below wc.heap.size wc wx))
              case first =>
                cases dl
                · go_wp2_with fail
                  go_meet
                  exact ⟨v, r, rfl, rfl, by omega, hr6, Lib.hid (by rw [behind, ← HDL.out]; rfl), Lib.hid (by rw [raw1, ← HDL.out]; rfl), Below.refl _ _⟩
                · have hr1 : (1 : Int) ≤ (r.size : Int) := by
                    have h1 : r.data.toList ≠ [] := fun e => by have := HDL.out; rw [e] at this; cases this
                    have := List.length_pos_iff.2 h1
                    rw [← size_list] at this; omega
                  have hv6 : v.size ≤ 65536 := by omega
                  go_wp2_with fail
                  refine (strPost (ttrimR v _ (by omega))).mono ?_
                  rintro e w1 ⟨v2, rfl, hv2, hb2⟩
                  have hvz : v2.size ≤ v.size := by rw [size_list, hv2, size_list, Lib.trimRightS, List.length_reverse]; have := (List.dropWhile_sublist (l := v.data.toList.reverse) (blanks.contains ·)).length_le; simpa using this
                  have HV2 := Lib.hid hv2; have HB2 := Lib.hid hb2
                  clear hv2 hb2
                  go_wp2_with fail
                  go_meet
                  exact ⟨v2, r.extract 1 r.size, rfl, rfl, by omega, by rw [ByteArray.size_extract]; omega, Lib.hid (by rw [behind, ← HDL.out]; exact HV2.out), Lib.hid (by rw [raw1, ← HDL.out, ext_list]; rfl), HB2.out⟩
              case rest =>
                obtain ⟨v2, r1, rfl, rfl, hv26, hr16, hv2, hr1, hb2⟩ := hcut
                have HV2 := Lib.hid hv2.out; have HR1 := Lib.hid hr1.out; have HB2 := Lib.hid hb2.out
                clear hv2 hr1 hb2
                have HW := Lib.hid (show Below w.heap.size w wc from (HI.out.bel.trans (HB1.out.mono HI.out.bel.size)).trans (HB2.out.mono (by have := HI.out.bel.size; have := HB1.out.size; omega)))
                have HOW := Lib.hid ((HI.out.own.keep HB1.out).keep HB2.out)
                go_wp2_with fail
                refine (tsuffix r1 _ _ (by omega)).mono ?_
                rintro e9 w' ⟨rfl, rfl⟩
                obtain ⟨dr, hdr⟩ : ∃ d, d = Lib.hasSuffix r1.data.toList (⟨#[32, 45]⟩ : ByteArray).data.toList := ⟨_, rfl⟩
                rw [← hdr]
                have HDR := Lib.hid (show dr = dashR r.data.toList from by rw [hdr, HR1.out]; rfl)
                clear hdr
                go_upto_if 77 with (fail)
                obtain ⟨wb, ewb⟩ : ∃ z, z = wc := ⟨_, rfl⟩
                subst ewb
                go_cut [12] (fun x12 wx => ∃ r2 : ByteArray, x12 = .string r2 ∧ r2.size ≤ 65536 ∧ Hid (r2.data.toList = raw2 r.data.toList) ∧ wx = wb)
                case first =>
                  cases dr
                  · go_wp2_with fail
                    go_meet
                    exact ⟨r1, rfl, hr16, Lib.hid (by rw [raw2, ← HDR.out]; exact HR1.out), rfl⟩
                  · have hr2 : (2 : Int) ≤ (r1.size : Int) := by
                      have h1 := suffix_two (a := 32) (b := 45) (l := r1.data.toList) (by rw [HR1.out]; exact HDR.out.symm)
                      rw [← size_list] at h1; omega
                    go_wp2_with fail
                    go_meet
                    exact ⟨r1.extract 0 (r1.size - 2), rfl, by rw [ByteArray.size_extract]; omega, Lib.hid (by rw [raw2, ← HDR.out, if_pos rfl, ← HR1.out, Lib.extract_data, size_list]; simp), rfl⟩
                case rest =>
                  obtain ⟨r2, rfl, hr26, hr2, rfl⟩ := hcut
                  have HR2 := Lib.hid hr2.out
                  clear hr2
                  go_wp2_with fail
                  obtain ⟨o2, ho2⟩ : ∃ o2, o2 = out ++ txt v2.data.toList b := ⟨_, rfl⟩
                  refine (show Calls Tryz.prog 51 #[.slice A out.length c, .agg #[.bool false, .string v2, .int .i64 b]] _ (AddPost _ w.heap.size o2) from by rw [ho2]; exact addv w.heap.size A c out v2 b _ HOW.out (by have := HI.out.few; omega) (by omega) HW.out.size).mono ?_
                  have HO2 := Lib.hid (show o2 = out ++ txt v2.data.toList b ∧ o2.length ≤ 1000000 from ⟨ho2, by have := HI.out.few; have := (show (txt v2.data.toList b).length ≤ 1 from by unfold txt; split <;> simp); rw [ho2]; simp; omega⟩)
                  clear ho2
                  rintro e9 w3 ⟨A2, c2, rfl, hown, hb3⟩
                  have HO := Lib.hid hown; have HB3 := Lib.hid (HW.out.trans hb3)
                  clear hown hb3
                  go_wp2_with fail
                  refine (strPost (ttrim r2 _ (by omega))).mono ?_
                  rintro e9 w4 ⟨bd, rfl, hbd, hb4⟩
                  replace HO := Lib.hid (HO.out.keep hb4); replace HB3 := Lib.hid (HB3.out.trans (hb4.mono HB3.out.size))
                  have HBD := Lib.hid (show bd.data.toList = body r.data.toList from by rw [hbd, HR2.out]; rfl)
                  have hbz : bd.size ≤ 65536 := by
                    have h1 : bd.size ≤ r2.size := by
                      rw [size_list, hbd, size_list, Lib.trimS, Lib.trimLeftS]
                      refine Nat.le_trans (List.dropWhile_sublist _).length_le ?_
                      rw [Lib.trimRightS, List.length_reverse]; have := (List.dropWhile_sublist (l := r2.data.toList.reverse) (blanks.contains ·)).length_le; simpa using this
                    omega
                  clear hb4 hbd
                  obtain ⟨hp, hhp⟩ : ∃ d, d = Lib.hasPrefix bd.data.toList (⟨#[47, 42]⟩ : ByteArray).data.toList := ⟨_, rfl⟩
                  obtain ⟨hs, hhs⟩ : ∃ d, d = Lib.hasSuffix bd.data.toList (⟨#[42, 47]⟩ : ByteArray).data.toList := ⟨_, rfl⟩
                  have CP := Lib.hid (show Calls Tryz.prog 40 #[.string bd, .string ⟨#[47, 42]⟩] w4 (fun e w' => e = .returned (.bool hp) ∧ w4 = w') from hhp ▸ tprefix _ _ _)
                  have CS := Lib.hid (show Calls Tryz.prog 54 #[.string bd, .string ⟨#[42, 47]⟩] w4 (fun e w' => e = .returned (.bool hs) ∧ w4 = w') from hhs ▸ tsuffix _ _ _ (by omega))
                  have HCM := Lib.hid (show comment bd.data.toList = (hp && hs && decide (4 ≤ bd.data.toList.length)) from by rw [hhp, hhs]; rfl)
                  clear hhp hhs
                  go_upto_region 31 with (fail)
                  go_cut [102] (fun x wx => x = .bool (!comment bd.data.toList) ∧ wx = w4)
                  case first =>
                    have HCN := Lib.hid (show comment bd.data.toList = (hp && hs && decide (4 ≤ bd.size)) from by rw [HCM.out, ← size_list])
                    by_cases h4 : 4 ≤ bd.size
                    · have d4 : decide ((bd.size : Int) < 4) = false := by simp; omega
                      have d5 : decide (4 ≤ bd.size) = true := by simp [h4]
                      have HD5 := Lib.hid d5; clear d5
                      cases hp
                      · go_wp2_with (go_at_call 40; refine CP.out.mono ?_; rintro e9 w' ⟨rfl, rfl⟩)
                        go_meet
                        exact ⟨by rw [HCN.out]; rfl, rfl⟩
                      · cases hs
                        · go_wp2_with (first | (go_at_call 40; refine CP.out.mono ?_; rintro e9 w' ⟨rfl, rfl⟩) | (go_at_call 54; refine CS.out.mono ?_; rintro e9 w' ⟨rfl, rfl⟩))
                          go_meet
                          exact ⟨by rw [HCN.out]; rfl, rfl⟩
                        · go_wp2_with (first | (go_at_call 40; refine CP.out.mono ?_; rintro e9 w' ⟨rfl, rfl⟩) | (go_at_call 54; refine CS.out.mono ?_; rintro e9 w' ⟨rfl, rfl⟩))
                          go_meet
                          exact ⟨by rw [HCN.out, HD5.out]; rfl, rfl⟩
                    · have d4 : decide ((bd.size : Int) < 4) = true := by simp; omega
                      have d5 : decide (4 ≤ bd.size) = false := by simp [h4]
                      have HD5 := Lib.hid d5; clear d5
                      cases hp
                      · go_wp2_with (go_at_call 40; refine CP.out.mono ?_; rintro e9 w' ⟨rfl, rfl⟩)
                        go_meet
                        exact ⟨by rw [HCN.out]; rfl, rfl⟩
                      · cases hs
                        · go_wp2_with (first | (go_at_call 40; refine CP.out.mono ?_; rintro e9 w' ⟨rfl, rfl⟩) | (go_at_call 54; refine CS.out.mono ?_; rintro e9 w' ⟨rfl, rfl⟩))
                          go_meet
                          exact ⟨by rw [HCN.out]; rfl, rfl⟩
                        · go_wp2_with (first | (go_at_call 40; refine CP.out.mono ?_; rintro e9 w' ⟨rfl, rfl⟩) | (go_at_call 54; refine CS.out.mono ?_; rintro e9 w' ⟨rfl, rfl⟩))
                          go_meet
                          exact ⟨by rw [HCN.out, HD5.out]; rfl, rfl⟩
                  case rest =>
                    obtain ⟨rfl, rfl⟩ := hcut
                    clear CP CS
                    have HN := Lib.hid (fun (out2 : List Tok) (A3 : Option Addr) (c3 : Nat) (wx : World) (he : out2 = out ++ txt v2.data.toList b ++ actn (body r.data.toList) p) (ho : OwnE eltK wx w.heap.size (fun _ => False) A3 c3 out2) (hbl : Below w.heap.size w wx) =>
                      (show SpInv s w wx out2 A3 c3 (E + 2) dr from by
                        subst he
                        rw [HDR.out]
                        exact HI.out.next hlt (by rw [← HL1.out]; exact HF.out) HP.out HC.out HE.out hE2 HRL.out (t := v.data.toList) (by rw [HV.out, HL2.out, HL1.out]) HV2.out (by rw [HBQ.out, size_list]) ho hbl))
                    cases hcm : comment bd.data.toList with
                    | true =>
                      have HK2 := Lib.hid (show actn (body r.data.toList) p = [] from by rw [← HBD.out, actn, hcm]; rfl)
                      clear hcm HCM
                      go_wp2_with fail
                      go_round
                      case rel => exact ⟨o2, A2, c2, E + 2, dr, rfl, rfl, by go_num, hE2, HN.out _ _ _ _ (by rw [HK2.out, List.append_nil, HO2.out.1]) HO.out HB3.out⟩
                      case measure => have := HP.out; simp [intOf]; omega
                    | false =>
                      have HK2 := Lib.hid (show actn (body r.data.toList) p = [⟨true, bd.data.toList, p⟩] from by rw [← HBD.out, actn, hcm]; rfl)
                      clear hcm HCM
                      obtain ⟨A3, c3, w5, hrun, hown, hgr⟩ := tok_appendv true bd p HO.out HO2.out.2 (by omega) HB3.out.size
                      obtain ⟨o3, ho3⟩ : ∃ o3, o3 = o2 ++ [⟨true, bd.data.toList, p⟩] := ⟨_, rfl⟩
                      rw [← ho3] at hrun hown
                      have HO3e := Lib.hid ho3
                      clear ho3
                      have HO3 := Lib.hid hown; have HG := Lib.hid hgr
                      clear hown hgr
                      go_wp2_with (at_builtin; refine wpList_append_run rfl (.tmp 103) (.tmp 107) 71 rfl hrun rfl rfl ?_)
                      go_round
                      case rel => exact ⟨o3, A3, c3, E + 2, dr, rfl, rfl, by go_num, hE2, HN.out _ _ _ _ (by rw [HK2.out, HO3e.out, HO2.out.1]) HO3.out (HB3.out.trans HG.out)⟩
                      case measure => have := HP.out; simp [intOf]; omega
    · go_wp2_with fail
      exact bodyPost_ret (v := .tuple #[.slice A out.length c, .int .i64 0]) (by simp [results, Tryz.results27, go_sem]) rfl
        (.inl ⟨out, A, c, by rw [HI.out.eq, drop_end (by omega), splitM_nil]; simp, rfl, HI.out.own.rep.weak (fun b hb _ => hb.elim (fun h => h.elim) id), HI.out.own.len.1, HI.out.own.len.2, HI.out.bel⟩)
end Go.Proofs.YtnblmhfgmehnnaaGreatDoor

