/- Rows of elements that the call itself made: element by element. -/
import Derived.Test.YtgbbojnigicnoaaDoorRep
import Derived.Test.YtgbbojnigicnoaaDoorSClone
namespace Go.Proofs.YtgbbojnigicnoaaDoor
open Go.RowKit

/-- A row of n elements of sz cells each at the head of block g; E says what each element's cells are. -/
def RowsG (w : World) (A : Option Addr) (g ty sz n lo : Nat) (E : Nat → List Value → Prop) : Prop :=
  0 < n → A = some ⟨g, 0, none⟩ ∧ lo ≤ g ∧ ∃ cur, Blk w g ty cur ∧ n * sz ≤ cur.size ∧ ∀ i, i < n → ∃ cs : List Value, cs.length = sz ∧ (∀ j, j < sz → cur[i * sz + j]? = cs[j]?) ∧ E i cs

section
variable {w w' : World} {A : Option Addr} {g ty sz n lo : Nat} {E E' : Nat → List Value → Prop}
theorem RowsG.mono (h : RowsG w A g ty sz n lo E) (hg : 0 < n → w'.heap[g]? = w.heap[g]?) (hE : ∀ i cs, i < n → E i cs → E' i cs) : RowsG w' A g ty sz n lo E' := fun hn => by
  obtain ⟨e, hlo, cur, hb, hz, hi⟩ := h hn
  exact ⟨e, hlo, cur, (hg hn).trans hb, hz, fun i hin => by
    obtain ⟨cs, h1, h2, h3⟩ := hi i hin
    exact ⟨cs, h1, h2, hE i cs hin h3⟩⟩
theorem RowsG.lt (h : RowsG w A g ty sz n lo E) (hn : 0 < n) : g < w.heap.size := by
  obtain ⟨_, _, _, hb, _⟩ := h hn
  exact hb.lt
theorem RowsG.at_ (h : RowsG w A g ty sz n lo E) {i : Nat} (hi : i < n) : A = some ⟨g, 0, none⟩ ∧ lo ≤ g ∧ ∃ cs : List Value, cs.length = sz ∧ cellsAt w g (i * sz) cs ∧ (∀ j, j < sz → w.frozen? ⟨g, i * sz + j, none⟩ = false) ∧ E i cs := by
  obtain ⟨e, hlo, cur, hb, hz, hall⟩ := h (by omega)
  obtain ⟨cs, h1, h2, h3⟩ := hall i hi
  refine ⟨e, hlo, cs, h1, fun j v hv => ?_, fun j _ => hb.frozen _, h3⟩
  have hj : j < sz := by
    have := (List.getElem?_eq_some_iff.1 hv).1
    omega
  rw [hb.cell, h2 j hj, hv]
/-- One element written anew. -/
theorem RowsG.put (h : RowsG w A g ty sz n lo E) {i : Nat} (hi : i < n) {cs' : List Value} (hl : cs'.length = sz)
    (hw : ∀ cur, Blk w g ty cur → i * sz + sz ≤ cur.size → ∃ cur', Blk w' g ty cur' ∧ cur'.size = cur.size ∧ (∀ j, j < sz → cur'[i * sz + j]? = cs'[j]?) ∧ ∀ k, (k < i * sz ∨ i * sz + sz ≤ k) → cur'[k]? = cur[k]?)
    (hE : ∀ k cs, k < n → k ≠ i → E k cs → E' k cs) (hE' : E' i cs') : RowsG w' A g ty sz n lo E' := fun hn => by
  obtain ⟨e, hlo, cur, hb, hz, hall⟩ := h hn
  have hfit : i * sz + sz ≤ n * sz := by
    have : (i + 1) * sz ≤ n * sz := Nat.mul_le_mul_right _ hi
    rwa [Nat.add_mul, Nat.one_mul] at this
  obtain ⟨cur', hb', hs', hj', hk'⟩ := hw cur hb (by omega)
  refine ⟨e, hlo, cur', hb', by omega, fun k hk => ?_⟩
  by_cases hki : k = i
  · subst hki
    exact ⟨cs', hl, hj', hE'⟩
  · obtain ⟨cs, h1, h2, h3⟩ := hall k hk
    refine ⟨cs, h1, fun j hj => ?_, hE k cs hk hki h3⟩
    rw [hk' _ ?_, h2 j hj]
    rcases Nat.lt_or_gt_of_ne hki with h | h
    · left
      have : (k + 1) * sz ≤ i * sz := Nat.mul_le_mul_right _ h
      rw [Nat.add_mul, Nat.one_mul] at this
      omega
    · right
      have : (i + 1) * sz ≤ k * sz := Nat.mul_le_mul_right _ h
      rw [Nat.add_mul, Nat.one_mul] at this
      omega
end

/-- Six cells stored in a row. -/
theorem Blk.store6 {w : World} {g ty o : Nat} {cur : Array Value} (c0 c1 c2 c3 c4 c5 : Value) (h : Blk w g ty cur) (ho : o + 6 ≤ cur.size) :
    ∃ cur', Blk ((((((w.setCell ⟨g, o, none⟩ c0).setCell ⟨g, o + 1, none⟩ c1).setCell ⟨g, o + 2, none⟩ c2).setCell ⟨g, o + 3, none⟩ c3).setCell ⟨g, o + 4, none⟩ c4).setCell ⟨g, o + 5, none⟩ c5) g ty cur' ∧ cur'.size = cur.size ∧
      (∀ j, j < 6 → cur'[o + j]? = [c0, c1, c2, c3, c4, c5][j]?) ∧ ∀ k, (k < o ∨ o + 6 ≤ k) → cur'[k]? = cur[k]? := by
  refine ⟨_, (((((h.set_ o c0).set_ (o + 1) c1).set_ (o + 2) c2).set_ (o + 3) c3).set_ (o + 4) c4).set_ (o + 5) c5, by simp, fun j hj => ?_, fun k hk => ?_⟩
  · match j, hj with
    | 0, _ => simp [Array.getElem?_setIfInBounds]; omega
    | 1, _ => simp [Array.getElem?_setIfInBounds]; omega
    | 2, _ => simp [Array.getElem?_setIfInBounds]; omega
    | 3, _ => simp [Array.getElem?_setIfInBounds]; omega
    | 4, _ => simp [Array.getElem?_setIfInBounds]; omega
    | 5, _ => simp [Array.getElem?_setIfInBounds]; omega
  · simp only [Array.getElem?_setIfInBounds]
    rw [if_neg (by omega), if_neg (by omega), if_neg (by omega), if_neg (by omega), if_neg (by omega), if_neg (by omega)]
def set6 (w : World) (g o : Nat) (c0 c1 c2 c3 c4 c5 : Value) : World :=
  (((((w.setCell ⟨g, o, none⟩ c0).setCell ⟨g, o + 1, none⟩ c1).setCell ⟨g, o + 2, none⟩ c2).setCell ⟨g, o + 3, none⟩ c3).setCell ⟨g, o + 4, none⟩ c4).setCell ⟨g, o + 5, none⟩ c5
section
variable {w : World} {g o : Nat} {c0 c1 c2 c3 c4 c5 : Value}
theorem set6_heap {k : Nat} (h : k ≠ g) : (set6 w g o c0 c1 c2 c3 c4 c5).heap[k]? = w.heap[k]? := by
  unfold set6
  rw [Below.heap_setCell _ _ _ _ h, Below.heap_setCell _ _ _ _ h, Below.heap_setCell _ _ _ _ h, Below.heap_setCell _ _ _ _ h, Below.heap_setCell _ _ _ _ h, Below.heap_setCell _ _ _ _ h]
theorem set6_size : (set6 w g o c0 c1 c2 c3 c4 c5).heap.size = w.heap.size := by simp [set6, World.setCell]
theorem set6_below {B : Nat} {a : World} (h : Below B a w) (hg : B ≤ g) : Below B a (set6 w g o c0 c1 c2 c3 c4 c5) :=
  (((((h.setCell (p := ⟨g, o, none⟩) hg _).setCell (p := ⟨g, o + 1, none⟩) hg _).setCell (p := ⟨g, o + 2, none⟩) hg _).setCell (p := ⟨g, o + 3, none⟩) hg _).setCell (p := ⟨g, o + 4, none⟩) hg _).setCell (p := ⟨g, o + 5, none⟩) hg _
end
/-- A store touches its block alone. -/
theorem only_set {a w : World} {g o : Nat} {v : Value} (h : a.grownBy w (some g)) : a.grownBy (w.setCell ⟨g, o, none⟩ v) (some g) :=
  ⟨h.os, h.tape, h.output, by simpa [World.setCell] using h.size, fun i hi hne => (Below.heap_setCell w _ v i (fun e => hne (by rw [e]))).trans (h.block i hi hne)⟩
theorem only_refl (w : World) (g : Nat) : w.grownBy w (some g) := World.grownBy.refl w _

/-- What element i of a copied row is: a value's cells, a pair's cells. -/
def ElemL (w : World) (S : Nat → Nat → Prop) (l : List T) (i : Nat) (cs : List Value) : Prop := ∀ h : i < l.length, RepT w (S i) (.agg cs.toArray) l[i]
def ElemM (w : World) (S : Nat → Nat → Prop) (m : List (ByteArray × T)) (i : Nat) (cs : List Value) : Prop :=
  ∀ h : i < m.length, ∃ r, cs = .string m[i].1 :: r ∧ m[i].1.size ≤ 140737488351232 ∧ RepT w (S i) (.agg r.toArray) m[i].2

theorem RowsG.repL {w : World} {A : Option Addr} {g ty lo : Nat} {l : List T} {S : Nat → Nat → Prop} {S' : Nat → Prop} (h : RowsG w A g ty 6 l.length lo (ElemL w S l)) (hg : S' g) (hS : ∀ i b, i < l.length → S i b → b < w.heap.size → S' b) : RepL w S' A l := by
  intro i hi
  obtain ⟨e, _, cs, hl, hc, _, hE⟩ := h.at_ hi
  exact ⟨g, 0, cs, e, hg, by rw [Nat.zero_add]; exact hc, (hE hi).weak (fun b => hS i b hi)⟩
theorem RowsG.repM {w : World} {A : Option Addr} {g ty lo : Nat} {m : List (ByteArray × T)} {S : Nat → Nat → Prop} {S' : Nat → Prop} (h : RowsG w A g ty 7 m.length lo (ElemM w S m)) (hg : S' g) (hS : ∀ i b, i < m.length → S i b → b < w.heap.size → S' b) : RepM w S' A m := by
  intro i hi
  obtain ⟨e, _, cs, hl, hc, _, hE⟩ := h.at_ hi
  obtain ⟨r, rfl, hz, hr⟩ := hE hi
  exact ⟨g, 0, r, e, hg, hz, by rw [Nat.zero_add]; exact hc, hr.weak (fun b => hS i b hi)⟩

/-- The cells of a slice of values, all in one list. -/
theorem RepL.cells {w : World} {S : Nat → Prop} {a : Option Addr} {l : List T} (h : RepL w S a l) : ∃ xs : List Value, xs.length = l.length * 6 ∧ Src w a xs ∧ (∀ u ∈ xs, u.oneCell' = true) ∧ ∀ i (hi : i < l.length), RepT w S (.agg ((xs.drop (i * 6)).take 6).toArray) l[i] := by
  have hch : ∀ i, ∃ cs : List Value, ∀ hi : i < l.length, cs.length = 6 ∧ (∀ u ∈ cs, u.oneCell' = true) ∧ (∃ b o, a = some ⟨b, o, none⟩ ∧ cellsAt w b (o + i * 6) cs) ∧ RepT w S (.agg cs.toArray) l[i] := fun i => by
    by_cases hi : i < l.length
    · obtain ⟨b, o, cs, e, hb, hc, hr⟩ := h i hi
      obtain ⟨la, lc, ma, mc, hv, _⟩ := hr.inv
      have := agg_list hv
      subst this
      exact ⟨_, fun _ => ⟨rfl, by simp [Value.oneCell'], ⟨b, o, e, hc⟩, hr⟩⟩
    · exact ⟨[], fun h' => absurd h' hi⟩
  have hlen : ∀ n, n ≤ l.length → ((List.range n).flatMap fun i => Classical.choose (hch i)).length = n * 6 := fun n => by
    induction n with
    | zero => simp
    | succ n ih =>
      intro hn
      rw [List.range_succ, List.flatMap_append, List.length_append, ih (by omega)]
      simp [(Classical.choose_spec (hch n) (by omega)).1, Nat.add_mul]
  have hget : ∀ n, n ≤ l.length → ∀ i, i < n → (((List.range n).flatMap fun i => Classical.choose (hch i)).drop (i * 6)).take 6 = Classical.choose (hch i) := fun n => by
    induction n with
    | zero => intro _ i hi; omega
    | succ n ih =>
      intro hn i hi
      have h6 := (Classical.choose_spec (hch i) (by omega)).1
      rw [List.range_succ, List.flatMap_append]
      by_cases hin : i = n
      · subst hin
        rw [List.drop_append_of_le_length (by rw [hlen i (by omega)]; exact Nat.le_refl _), List.drop_of_length_le (by rw [hlen i (by omega)]; exact Nat.le_refl _)]
        simp [List.take_of_length_le (Nat.le_of_eq h6)]
      · have hlt : i < n := by omega
        rw [List.drop_append_of_le_length (by rw [hlen n (by omega)]; omega), List.take_append_of_le_length (by rw [List.length_drop, hlen n (by omega)]; omega)]
        exact ih (by omega) i hlt
  refine ⟨(List.range l.length).flatMap fun i => Classical.choose (hch i), hlen _ (Nat.le_refl _), fun j u hu => ?_, fun u hu => ?_, fun i hi => ?_⟩
  · have hj : j < l.length * 6 := by have := (List.getElem?_eq_some_iff.1 hu).1; rw [hlen _ (Nat.le_refl _)] at this; exact this
    have hi : j / 6 < l.length := by omega
    obtain ⟨h6, _, ⟨b, o, e, hc⟩, _⟩ := Classical.choose_spec (hch (j / 6)) hi
    refine ⟨b, o, e, ?_⟩
    have := hc (j % 6) u (by
      rw [← hget _ (Nat.le_refl _) (j / 6) hi, List.getElem?_take_of_lt (by omega), List.getElem?_drop, show j / 6 * 6 + j % 6 = j by omega]
      exact hu)
    rw [show o + j / 6 * 6 + j % 6 = o + j by omega] at this
    exact this
  · obtain ⟨i, hi, hu⟩ := List.mem_flatMap.1 hu
    exact (Classical.choose_spec (hch i) (by simpa using hi)).2.1 u hu
  · rw [hget _ (Nat.le_refl _) i hi]
    exact (Classical.choose_spec (hch i) hi).2.2.2

/-- The cells of a slice of pairs, all in one list. -/
theorem RepM.cells {w : World} {S : Nat → Prop} {a : Option Addr} {l : List (ByteArray × T)} (h : RepM w S a l) : ∃ xs : List Value, xs.length = l.length * 7 ∧ Src w a xs ∧ (∀ u ∈ xs, u.oneCell' = true) ∧ ∀ i (hi : i < l.length), ∃ r, (xs.drop (i * 7)).take 7 = .string l[i].1 :: r ∧ l[i].1.size ≤ 140737488351232 ∧ RepT w S (.agg r.toArray) l[i].2 := by
  have hch : ∀ i, ∃ cs : List Value, ∀ hi : i < l.length, cs.length = 7 ∧ (∀ u ∈ cs, u.oneCell' = true) ∧ (∃ b o, a = some ⟨b, o, none⟩ ∧ cellsAt w b (o + i * 7) cs) ∧ (∃ r, cs = .string l[i].1 :: r ∧ l[i].1.size ≤ 140737488351232 ∧ RepT w S (.agg r.toArray) l[i].2) := fun i => by
    by_cases hi : i < l.length
    · obtain ⟨b, o, cs, e, hb, hz, hc, hr⟩ := h i hi
      obtain ⟨la, lc, ma, mc, hv, _⟩ := hr.inv
      have := agg_list hv
      subst this
      exact ⟨_, fun _ => ⟨rfl, by simp [Value.oneCell'], ⟨b, o, e, hc⟩, ⟨_, rfl, hz, hr⟩⟩⟩
    · exact ⟨[], fun h' => absurd h' hi⟩
  have hlen : ∀ n, n ≤ l.length → ((List.range n).flatMap fun i => Classical.choose (hch i)).length = n * 7 := fun n => by
    induction n with
    | zero => simp
    | succ n ih =>
      intro hn
      rw [List.range_succ, List.flatMap_append, List.length_append, ih (by omega)]
      simp [(Classical.choose_spec (hch n) (by omega)).1, Nat.add_mul]
  have hget : ∀ n, n ≤ l.length → ∀ i, i < n → (((List.range n).flatMap fun i => Classical.choose (hch i)).drop (i * 7)).take 7 = Classical.choose (hch i) := fun n => by
    induction n with
    | zero => intro _ i hi; omega
    | succ n ih =>
      intro hn i hi
      have h7 := (Classical.choose_spec (hch i) (by omega)).1
      rw [List.range_succ, List.flatMap_append]
      by_cases hin : i = n
      · subst hin
        rw [List.drop_append_of_le_length (by rw [hlen i (by omega)]; exact Nat.le_refl _), List.drop_of_length_le (by rw [hlen i (by omega)]; exact Nat.le_refl _)]
        simp [List.take_of_length_le (Nat.le_of_eq h7)]
      · have hlt : i < n := by omega
        rw [List.drop_append_of_le_length (by rw [hlen n (by omega)]; omega), List.take_append_of_le_length (by rw [List.length_drop, hlen n (by omega)]; omega)]
        exact ih (by omega) i hlt
  refine ⟨(List.range l.length).flatMap fun i => Classical.choose (hch i), hlen _ (Nat.le_refl _), fun j u hu => ?_, fun u hu => ?_, fun i hi => ?_⟩
  · have hj : j < l.length * 7 := by have := (List.getElem?_eq_some_iff.1 hu).1; rw [hlen _ (Nat.le_refl _)] at this; exact this
    have hi : j / 7 < l.length := by omega
    obtain ⟨h7, _, ⟨b, o, e, hc⟩, _⟩ := Classical.choose_spec (hch (j / 7)) hi
    refine ⟨b, o, e, ?_⟩
    have := hc (j % 7) u (by
      rw [← hget _ (Nat.le_refl _) (j / 7) hi, List.getElem?_take_of_lt (by omega), List.getElem?_drop, show j / 7 * 7 + j % 7 = j by omega]
      exact hu)
    rw [show o + j / 7 * 7 + j % 7 = o + j by omega] at this
    exact this
  · obtain ⟨i, hi, hu⟩ := List.mem_flatMap.1 hu
    exact (Classical.choose_spec (hch i) (by simpa using hi)).2.1 u hu
  · rw [hget _ (Nat.le_refl _) i hi]
    exact (Classical.choose_spec (hch i) hi).2.2.2

end Go.Proofs.YtgbbojnigicnoaaDoor
