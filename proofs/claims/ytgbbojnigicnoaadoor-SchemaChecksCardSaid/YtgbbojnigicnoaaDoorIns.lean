/- Plain laws of a map that is kept by rising keys: one pair laid in. -/
import Derived.Test.YtgbbojnigicnoaaDoorSearch
namespace Go.Proofs.YtgbbojnigicnoaaDoor

/-- One pair laid into a map that is kept by rising keys. -/
def ins : List (ByteArray × T) → ByteArray → T → List (ByteArray × T)
  | [], k, t => [(k, t)]
  | p :: r, k, t => if klt p.1 k = true then p :: ins r k t else if p.1 = k then (k, t) :: r else (k, t) :: p :: r
/-- A map of pairs: of one key the last one. -/
def mapT (l : List (ByteArray × T)) : List (ByteArray × T) := l.foldl (fun m p => ins m p.1 p.2) []

theorem KS.nil : KS [] := fun i j hj _ => by simp at hj
theorem KS.tail {p : ByteArray × T} {r : List (ByteArray × T)} (h : KS (p :: r)) : KS r := fun i j hj hij => by
  have := h (i + 1) (j + 1) (by simpa using hj) (by omega)
  simpa using this
theorem KS.head {p : ByteArray × T} {r : List (ByteArray × T)} (h : KS (p :: r)) : ∀ q ∈ r, klt p.1 q.1 = true := fun q hq => by
  obtain ⟨j, hj, rfl⟩ := List.getElem_of_mem hq
  exact h 0 (j + 1) (by simpa using hj) (by omega)
theorem KS.cons {p : ByteArray × T} {r : List (ByteArray × T)} (h1 : ∀ q ∈ r, klt p.1 q.1 = true) (h2 : KS r) : KS (p :: r) := fun i j hj hij => by
  match i, j, hij, hj with
  | 0, j + 1, _, hj => simpa using h1 _ (List.getElem_mem (by simpa using hj))
  | i + 1, j + 1, hij, hj => simpa using h2 i j (by simpa using hj) (by omega)
theorem ins_mem {m : List (ByteArray × T)} {k : ByteArray} {t : T} : ∀ q ∈ ins m k t, q = (k, t) ∨ q ∈ m := by
  induction m with
  | nil => intro q hq; simp [ins] at hq; exact .inl hq
  | cons p r ih =>
    intro q hq
    unfold ins at hq
    split at hq
    · rcases List.mem_cons.1 hq with rfl | hq
      · exact .inr (by simp)
      · rcases ih q hq with h | h
        · exact .inl h
        · exact .inr (by simp [h])
    · split at hq
      · rcases List.mem_cons.1 hq with rfl | hq
        · exact .inl rfl
        · exact .inr (by simp [hq])
      · rcases List.mem_cons.1 hq with rfl | hq
        · exact .inl rfl
        · exact .inr hq
theorem ins_KS {m : List (ByteArray × T)} (h : KS m) (k : ByteArray) (t : T) : KS (ins m k t) := by
  induction m with
  | nil => exact KS.cons (by simp) KS.nil
  | cons p r ih =>
    unfold ins
    split
    · next hk =>
      refine KS.cons (fun q hq => ?_) (ih h.tail)
      rcases ins_mem q hq with rfl | hq
      · exact hk
      · exact h.head q hq
    · next hk =>
      split
      · next he =>
        subst he
        exact KS.cons h.head h.tail
      · next he =>
        have hpk : klt k p.1 = true := by
          rcases klt_total p.1 k with h' | h' | h'
          · exact absurd h' hk
          · exact absurd h' he
          · exact h'
        refine KS.cons (fun q hq => ?_) h
        rcases List.mem_cons.1 hq with rfl | hq
        · exact hpk
        · exact klt_trans hpk (h.head q hq)
theorem srch_cons {p : ByteArray × T} {r : List (ByteArray × T)} {k : ByteArray} {i : Nat} {f : Bool} (h : Srch (p :: r) k (i + 1) f) : Srch r k i f := by
  obtain ⟨h1, h2, h3, h4⟩ := h
  refine ⟨by simpa using h1, fun j hj hji => ?_, fun j hj hij => ?_, ?_⟩
  · exact h2 (j + 1) (by simpa using hj) (by omega)
  · exact h3 (j + 1) (by simpa using hj) (by omega)
  · rw [h4]
    simp
theorem ins_found {m : List (ByteArray × T)} {k : ByteArray} {i : Nat} (t : T) (h : Srch m k i true) : ins m k t = m.set i (k, t) := by
  induction m generalizing i with
  | nil =>
    obtain ⟨hi, _⟩ := h.2.2.2.1 rfl
    simp at hi
  | cons p r ih =>
    match i, h with
    | 0, h =>
      obtain ⟨_, he⟩ := h.2.2.2.1 rfl
      have h0 := h.2.2.1 0 (by simp) (Nat.le_refl _)
      simp at he h0
      simp [ins, he, klt_irrefl]
    | i + 1, h =>
      have h0 := h.2.1 0 (by simp) (by omega)
      simp at h0
      simp [ins, h0, ih (srch_cons h)]
theorem ins_new {m : List (ByteArray × T)} {k : ByteArray} {i : Nat} (t : T) (h : Srch m k i false) : ins m k t = m.take i ++ (k, t) :: m.drop i := by
  induction m generalizing i with
  | nil => simp [ins]
  | cons p r ih =>
    match i, h with
    | 0, h =>
      have h0 := h.2.2.1 0 (by simp) (Nat.le_refl _)
      simp at h0
      have hne : ¬ p.1 = k := fun e => by
        have := h.2.2.2.2 ⟨by simp, by simpa using e⟩
        cases this
      simp [ins, h0, hne]
    | i + 1, h =>
      have h0 := h.2.1 0 (by simp) (by omega)
      simp at h0
      simp [ins, h0, ih (srch_cons h)]
theorem mapT_KS_from (l : List (ByteArray × T)) {m : List (ByteArray × T)} (h : KS m) : KS (l.foldl (fun m p => ins m p.1 p.2) m) := by
  induction l generalizing m with
  | nil => exact h
  | cons p r ih => exact ih (ins_KS h _ _)
theorem mapT_KS (l : List (ByteArray × T)) : KS (mapT l) := mapT_KS_from l KS.nil
theorem ins_length (m : List (ByteArray × T)) (k : ByteArray) (t : T) : (ins m k t).length ≤ m.length + 1 := by
  induction m with
  | nil => simp [ins]
  | cons p r ih =>
    unfold ins
    split
    · simp; omega
    · split <;> simp
theorem mapT_take_succ {l : List (ByteArray × T)} {i : Nat} (h : i < l.length) : mapT (l.take (i + 1)) = ins (mapT (l.take i)) l[i].1 l[i].2 := by
  unfold mapT
  rw [List.take_succ_eq_append_getElem h, List.foldl_append]
  rfl
theorem mapT_length (l : List (ByteArray × T)) : (mapT l).length ≤ l.length := by
  suffices ∀ (l m : List (ByteArray × T)), (l.foldl (fun m p => ins m p.1 p.2) m).length ≤ m.length + l.length by simpa [mapT] using this l []
  intro l
  induction l with
  | nil => simp
  | cons p r ih =>
    intro m
    have h1 := ih (ins m p.1 p.2)
    have h2 := ins_length m p.1 p.2
    simp only [List.foldl_cons, List.length_cons]
    omega

end Go.Proofs.YtgbbojnigicnoaaDoor
