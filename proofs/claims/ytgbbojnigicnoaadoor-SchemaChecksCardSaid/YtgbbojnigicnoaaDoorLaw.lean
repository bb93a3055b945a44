/- Words for the laws: rows that a literal makes, what comes in. -/
import Derived.Test.YtgbbojnigicnoaaDoorOpen
import Derived.Test.YtgbbojnigicnoaaDoorRfPD
import Derived.Test.YtgbbojnigicnoaaDoorMake
import Derived.Test.YtgbbojnigicnoaaDoorGetB
import Derived.Test.YtgbbojnigicnoaaDoorSame
namespace Go.Proofs.YtgbbojnigicnoaaDoor
open Go.RowKit

/-- Elements, each with its cells. -/
def AllR {α : Type} (E : Elt α) (w : World) (S : Nat → Prop) : List (List Value) → List α → Prop
  | [], [] => True
  | c :: cs, x :: xs => E.R w S c x ∧ AllR E w S cs xs
  | _, _ => False
theorem AllR.get {α : Type} {E : Elt α} {w : World} {S : Nat → Prop} : ∀ {es : List (List Value)} {l : List α}, AllR E w S es l → ∀ i (h : i < l.length), ∃ h2 : i < es.length, E.R w S es[i] l[i]
  | [], [], _, i, h => by simp at h
  | c :: cs, x :: xs, hr, 0, h => ⟨by simp, hr.1⟩
  | c :: cs, x :: xs, hr, i + 1, h => by
    obtain ⟨h2, h3⟩ := AllR.get hr.2 i (by simpa using h)
    exact ⟨by simpa using h2, by simpa using h3⟩
  | [], x :: xs, hr, _, _ => hr.elim
  | c :: cs, [], hr, _, _ => hr.elim
theorem flat_get {sz : Nat} : ∀ (es : List (List Value)), (∀ c ∈ es, c.length = sz) → ∀ i (h : i < es.length) j, j < sz → es.flatten[i * sz + j]? = es[i][j]?
  | [], _, i, h, j, hj => by simp at h
  | c :: cs, hl, 0, h, j, hj => by
    rw [Nat.zero_mul, Nat.zero_add, List.flatten_cons, List.getElem?_append_left (by rw [hl c (by simp)]; exact hj)]; rfl
  | c :: cs, hl, i + 1, h, j, hj => by
    have hc := hl c (by simp)
    rw [List.flatten_cons, List.getElem?_append_right (by rw [hc, Nat.add_mul]; omega), hc, show (i + 1) * sz + j - sz = i * sz + j by rw [Nat.add_mul]; omega, flat_get cs (fun c hc => hl c (by simp [hc])) i (by simpa using h) j hj]
    rfl
theorem AllR.lens {α : Type} {E : Elt α} {w : World} {S : Nat → Prop} : ∀ {es : List (List Value)} {l : List α}, AllR E w S es l → ∀ c ∈ es, c.length = E.sz
  | [], _, _, c, hc => by simp at hc
  | c :: cs, x :: xs, hr, d, hd => by
    rcases List.mem_cons.1 hd with rfl | hd
    · exact E.len hr.1
    · exact AllR.lens hr.2 d hd
  | c :: cs, [], hr, _, _ => hr.elim
/-- A block that holds elements in a row. -/
theorem rep_block {α : Type} {E : Elt α} {w : World} {S : Nat → Prop} {g ty : Nat} {cs : Array Value} (es : List (List Value)) {l : List α} (hb : Blk w g ty cs) (he : cs = es.flatten.toArray) (hS : S g) (h : AllR E w S es l) : RepE E w S (some ⟨g, 0, none⟩) l := by
  intro i hi
  obtain ⟨h2, h3⟩ := h.get i hi
  have hlen := h.lens
  refine ⟨g, 0, es[i], rfl, hS, fun j v hv => ?_, h3⟩
  have hj : j < E.sz := by
    have := (List.getElem?_eq_some_iff.1 hv).1
    rw [hlen _ (List.getElem_mem h2)] at this
    exact this
  rw [hb.cell, Nat.zero_add, he, List.getElem?_toArray, flat_get es hlen i h2 j hj]
  exact hv

/-- A number as a value. -/
def tI (n : Int) : T := .mk 2 false n ⟨#[]⟩ [] []
theorem RepT.any {w : World} {S : Nat → Prop} {v : Value} {t : T} (h : RepT w S v t) : RepT w (fun _ => True) v t := h.weak fun _ _ _ => trivial

def GotPost (w : World) (x : T) (e : Ending) (w' : World) : Prop := ∃ v, e = .returned (.tuple #[v, .bool true]) ∧ RepT w' (fun b => w.heap.size ≤ b) v x ∧ Below w.heap.size w w'
def NonePost (w : World) (e : Ending) (w' : World) : Prop := ∃ v, e = .returned (.tuple #[v, .bool false]) ∧ RepT w' (fun b => w.heap.size ≤ b) v T.zero ∧ Below w.heap.size w w'
theorem tget_some {t x : T} {key : ByteArray} (hx : getT t key = some x) (v : Value) (w : World) (S : Nat → Prop) (h : RepT w S v t) (hks : KS t.map) : Calls Tryd.prog 37 #[v, .string key] w (GotPost w x) := by
  have := tget t key v w S h hks
  rw [hx] at this
  exact this
def GotB (w : World) (b : Bool) (x : T) (e : Ending) (w' : World) : Prop := ∃ v, e = .returned (.tuple #[v, .bool b]) ∧ RepT w' (fun b => w.heap.size ≤ b) v x ∧ Below w.heap.size w w'
theorem tget_b {t x : T} {b : Bool} {key : ByteArray} (hb : (getT t key).isSome = b) (hx : (getT t key).getD T.zero = x) (v : Value) (w : World) (S : Nat → Prop) (h : RepT w S v t) (hks : KS t.map) : Calls Tryd.prog 37 #[v, .string key] w (GotB w b x) := by
  subst hb hx
  exact tget t key v w S h hks
theorem rsame_true {a b : T} (hab : a = b) (w : World) (S S' : Nat → Prop) (v v' : Value) (h : RepT w S v a) (h' : RepT w S' v' b) : Calls Tryd.prog 22 #[v, v'] w fun e w' => e = .returned (.bool true) ∧ Below w.heap.size w w' :=
  (rsame a b w S S' v v' h h').mono fun e w' ⟨r, he, hr, hb⟩ => ⟨by rw [he, hr.2 hab], hb⟩
theorem rsame_false {a b : T} (hab : a ≠ b) (w : World) (S S' : Nat → Prop) (v v' : Value) (h : RepT w S v a) (h' : RepT w S' v' b) : Calls Tryd.prog 22 #[v, v'] w fun e w' => e = .returned (.bool false) ∧ Below w.heap.size w w' :=
  (rsame a b w S S' v v' h h').mono fun e w' ⟨r, he, hr, hb⟩ => ⟨by
    cases r with
    | false => exact he
    | true => exact absurd (hr.1 rfl) hab, hb⟩
theorem map_wt (m : List (ByteArray × T)) : m.length ≤ T.wtM m := by
  induction m with
  | nil => simp
  | cons p r ih =>
    obtain ⟨k, x⟩ := p
    have : 1 ≤ x.wt := by rw [T.wt_eq]; omega
    simp only [T.wtM, T.wtP, List.length_cons]; omega
theorem list_wt (l : List T) : l.length ≤ T.wtL l := by
  induction l with
  | nil => simp
  | cons x r ih =>
    have : 1 ≤ x.wt := by rw [T.wt_eq]; omega
    simp only [T.wtL, List.length_cons]; omega
theorem Good.mlen {t : T} (h : Good t) : t.map.length ≤ 6000 := by
  have := h.1
  rw [T.wt_eq] at this
  have := map_wt t.map
  omega
theorem Good.llen {t : T} (h : Good t) : t.list.length ≤ 6000 := by
  have := h.1
  rw [T.wt_eq] at this
  have := list_wt t.list
  omega
theorem tget_none {t : T} {key : ByteArray} (hx : getT t key = none) (v : Value) (w : World) (S : Nat → Prop) (h : RepT w S v t) (hks : KS t.map) : Calls Tryd.prog 37 #[v, .string key] w (NonePost w) := by
  have := tget t key v w S h hks
  rw [hx] at this
  exact this
end Go.Proofs.YtgbbojnigicnoaaDoor
