/- Plain laws of maps: put, drop, get. -/
import Derived.Test.YtgbbojnigicnoaaDoorGetB
import Derived.Test.YtgbbojnigicnoaaDoorCmp
import Derived.Test.YtgbbojnigicnoaaDoorRight
namespace Go.Proofs.YtgbbojnigicnoaaDoor

theorem KS.snoc {m : List (ByteArray × T)} {p : ByteArray × T} (h : KS (m ++ [p])) : KS m ∧ ∀ q ∈ m, klt q.1 p.1 = true := by
  constructor
  · intro i j hj hij
    have := h i j (by simp; omega) hij
    rw [List.getElem_append_left (by omega), List.getElem_append_left hj] at this
    exact this
  · intro q hq
    obtain ⟨i, hi, rfl⟩ := List.getElem_of_mem hq
    have := h i m.length (by simp) hi
    rw [List.getElem_append_left hi] at this
    simpa using this
theorem ins_last {m : List (ByteArray × T)} {k : ByteArray} (t : T) (h : ∀ q ∈ m, klt q.1 k = true) : ins m k t = m ++ [(k, t)] := by
  induction m with
  | nil => rfl
  | cons p r ih =>
    rw [ins, if_pos (h p (by simp)), ih (fun q hq => h q (by simp [hq]))]
    rfl
/-- A map whose keys rise is what is made of its pairs. -/
theorem mapT_self {m : List (ByteArray × T)} (h : KS m) : mapT m = m := by
  suffices ∀ (r m : List (ByteArray × T)), KS (m ++ r) → r.foldl (fun m p => ins m p.1 p.2) m = m ++ r from this m [] h
  intro r
  induction r with
  | nil => intro m _; simp
  | cons p r ih =>
    intro m h
    have h2 : KS ((m ++ [p]) ++ r) := by simpa using h
    have h3 : KS (m ++ [p]) := fun i j hj hij => by
      have := h2 i j (by rw [List.length_append]; omega) hij
      rw [List.getElem_append_left (by omega), List.getElem_append_left hj] at this
      exact this
    rw [List.foldl_cons, ins_last p.2 h3.snoc.2, ih _ h2]
    simp
theorem mapT_snoc (l : List (ByteArray × T)) (p : ByteArray × T) : mapT (l ++ [p]) = ins (mapT l) p.1 p.2 := by
  unfold mapT; rw [List.foldl_append]; rfl

theorem look_ins (m : List (ByteArray × T)) (k : ByteArray) (t : T) (h : KS m) (j : ByteArray) : look (ins m k t) j = if k = j then some t else look m j := by
  induction m with
  | nil => simp [ins, look]
  | cons p r ih =>
    unfold ins
    split
    · next hk =>
      have hne : p.1 ≠ k := klt_ne hk
      rw [look, look, ih h.tail]
      by_cases hj : p.1 = j
      · rw [if_pos hj, if_neg (fun e => hne (hj.trans e.symm)), if_pos hj]
      · rw [if_neg hj, if_neg hj]
    · split
      · next he =>
        subst he
        simp only [look]
        by_cases hj : p.1 = j
        · rw [if_pos hj, if_pos hj]
        · rw [if_neg hj, if_neg hj, if_neg hj]
      · simp only [look]
theorem look_mem {m : List (ByteArray × T)} {k : ByteArray} {t : T} (h : look m k = some t) : (k, t) ∈ m := by
  induction m with
  | nil => simp [look] at h
  | cons p r ih =>
    rw [look] at h
    split at h
    · next he =>
      injection h with h
      subst he h
      simp
    · exact List.mem_cons_of_mem _ (ih h)
theorem look_not {m : List (ByteArray × T)} {k : ByteArray} (h : ∀ q ∈ m, q.1 ≠ k) : look m k = none := by
  induction m with
  | nil => rfl
  | cons p r ih => rw [look, if_neg (h p (by simp)), ih (fun q hq => h q (by simp [hq]))]

theorem ins_ins (m : List (ByteArray × T)) (k : ByteArray) (t u : T) (h : KS m) : ins (ins m k t) k u = ins m k u := by
  induction m with
  | nil => simp [ins, klt_irrefl]
  | cons p r ih =>
    rw [ins]
    by_cases hk : klt p.1 k = true
    · rw [if_pos hk, ins, if_pos hk, ih h.tail, ins, if_pos hk]
    · rw [if_neg hk]
      by_cases he : p.1 = k
      · rw [if_pos he, ins, if_neg (by simp [klt_irrefl]), if_pos rfl, ins, if_neg hk, if_pos he]
      · rw [if_neg he, ins, if_neg (by simp [klt_irrefl]), if_pos rfl, ins, if_neg hk, if_neg he]
/-- A map without a key. -/
def del (m : List (ByteArray × T)) (k : ByteArray) : List (ByteArray × T) := m.filter fun p => decide (p.1 ≠ k)
theorem KS.filter {m : List (ByteArray × T)} (h : KS m) (f : ByteArray × T → Bool) : KS (m.filter f) := by
  induction m with
  | nil => exact h
  | cons p r ih =>
    rw [List.filter_cons]
    split
    · exact KS.cons (fun q hq => h.head q ((List.mem_filter.1 hq).1)) (ih h.tail)
    · exact ih h.tail
theorem del_KS {m : List (ByteArray × T)} (h : KS m) (k : ByteArray) : KS (del m k) := h.filter _
theorem look_del (m : List (ByteArray × T)) (k j : ByteArray) : look (del m k) j = if k = j then none else look m j := by
  induction m with
  | nil => simp [del, look]
  | cons p r ih =>
    unfold del at *
    rw [List.filter_cons]
    by_cases he : p.1 = k
    · rw [if_neg (by simp [he]), ih, look]
      by_cases hj : k = j
      · rw [if_pos hj, if_pos hj]
      · rw [if_neg hj, if_neg hj, if_neg (fun e => hj (he.symm.trans e))]
    · rw [if_pos (by simp [he]), look, ih, look]
      by_cases hj : p.1 = j
      · rw [if_pos hj, if_pos hj, if_neg (fun e => he (hj.trans e.symm))]
      · rw [if_neg hj, if_neg hj]
theorem del_none {m : List (ByteArray × T)} {k : ByteArray} (h : ∀ q ∈ m, q.1 ≠ k) : del m k = m := by
  unfold del; rw [List.filter_eq_self]; intro q hq; simpa using h q hq
theorem del_ins (m : List (ByteArray × T)) (k : ByteArray) (t : T) (h : KS m) : del (ins m k t) k = del m k := by
  induction m with
  | nil => simp [ins, del]
  | cons p r ih =>
    rw [ins]
    split
    · next hk => simp only [del, List.filter_cons] at *; rw [ih h.tail]
    · split
      · next he => simp [del, he]
      · simp [del]
theorem ins_look {m : List (ByteArray × T)} {k : ByteArray} {t : T} (hks : KS m) (h : look m k = some t) : ins m k t = m := by
  induction m with
  | nil => simp [look] at h
  | cons p r ih =>
    rw [look] at h
    rw [ins]
    split at h
    · next he =>
      injection h with h
      subst he h
      rw [if_neg (by simp [klt_irrefl]), if_pos rfl]
    · have hm := look_mem h
      rw [if_pos (hks.head _ hm), ih hks.tail h]

/-- What Put makes. -/
def baseM (t : T) : List (ByteArray × T) := if t.kind = 5 then t.map else []
def putT (t : T) (k : ByteArray) (x : T) : T := mkMap (ins (mapT (baseM t)) k x)
/-- What Drop leaves. -/
def dropT (t : T) (k : ByteArray) : T := .mk t.kind t.bool t.int t.str t.list (del t.map k)
/-- What the reference's Put makes. -/
def rput (k : ByteArray) (x : T) : Bool → List (ByteArray × T) → List (ByteArray × T)
  | laid, [] => if laid then [] else [(k, x)]
  | laid, p :: r => (if klt p.1 k = false ∧ laid = false then [(k, x)] else []) ++ (if p.1 ≠ k then [p] else []) ++ rput k x (laid || !klt p.1 k) r
theorem rput_true {m : List (ByteArray × T)} {k : ByteArray} (x : T) (h : ∀ q ∈ m, q.1 ≠ k) : rput k x true m = m := by
  induction m with
  | nil => rfl
  | cons p r ih =>
    rw [rput, if_neg (by simp), if_pos (h p (by simp)), Bool.true_or, ih (fun q hq => h q (by simp [hq]))]
    rfl
theorem rput_ins {m : List (ByteArray × T)} (h : KS m) (k : ByteArray) (x : T) : rput k x false m = ins m k x := by
  induction m with
  | nil => rfl
  | cons p r ih =>
    rw [rput, ins]
    by_cases hk : klt p.1 k = true
    · rw [if_pos hk, if_neg (by simp [hk]), if_pos (klt_ne hk), hk, show (false || !true) = false from rfl, ih h.tail]
      rfl
    · have hk' : klt p.1 k = false := by simpa using hk
      rw [if_neg hk, if_pos ⟨hk', rfl⟩, hk', show (false || !false) = true from rfl]
      by_cases he : p.1 = k
      · rw [if_pos he, if_neg (by simp [he]), rput_true _ (fun q hq e => by
          have := h.head q hq
          rw [he, e, klt_irrefl] at this
          cases this)]
        rfl
      · rw [if_neg he, if_pos he, rput_true _ (fun q hq e => by
          have := h.head q hq
          rw [e, hk'] at this
          cases this)]
        rfl

theorem parts_KS {t : T} (h : t.parts = 0) : KS t.map := by
  rw [T.parts_eq] at h
  split at h
  · split at h
    · split at h
      · exact absurd h ‹_›
      · generalize t.map = m at h
        suffices ∀ (m : List (ByteArray × T)) (prev : Option ByteArray), T.partsM prev m = 0 → KS m ∧ ∀ q, prev = some q → ∀ p ∈ m, klt q p.1 = true from (this m none h).1
        intro m
        induction m with
        | nil => intro prev _; exact ⟨KS.nil, by simp⟩
        | cons p r ih =>
          intro prev h
          rw [partsM_cons] at h
          have fin : (if T.partsP p ≠ 0 then T.partsP p else T.partsM (some p.1) r) = 0 → KS (p :: r) ∧ ∀ q ∈ r, klt p.1 q.1 = true := fun h => by
            by_cases h0 : T.partsP p ≠ 0
            · rw [if_pos h0] at h; exact absurd h h0
            · rw [if_neg h0] at h
              obtain ⟨h1, h2⟩ := ih _ h
              exact ⟨KS.cons (fun q hq => h2 p.1 rfl q hq) h1, fun q hq => h2 p.1 rfl q hq⟩
          by_cases hk : keyB p.1 = true
          · rw [if_pos hk] at h
            cases prev with
            | none => exact ⟨(fin (by simpa using h)).1, by simp⟩
            | some q =>
              by_cases hq : klt q p.1 = true
              · rw [if_pos (by simpa using hq)] at h
                refine ⟨(fin h).1, fun q' e p' hp' => ?_⟩
                injection e with e
                subst e
                rcases List.mem_cons.1 hp' with rfl | hp'
                · exact hq
                · exact klt_trans hq ((fin h).2 p' hp')
              · rw [if_neg (by simpa using hq)] at h
                simp at h
          · rw [if_neg hk] at h
            simp at h
    · simp at h
  · simp at h
theorem parts_isbare {t : T} (h : t.parts = 0) : t.bareB = true := by
  rw [T.parts_eq] at h
  split at h
  · assumption
  · simp at h
theorem Good.parts {t : T} (h : Good t) : t.parts = 0 := by
  have := h.2
  unfold T.check at this
  split at this
  · simp at this
  · split at this
    · simp at this
    · exact this
theorem Good.KS {t : T} (h : Good t) : KS t.map := parts_KS h.parts
theorem Good.map {t : T} (h : Good t) (hk : t.kind = 5) : t = mkMap t.map := by
  have hb := parts_isbare h.parts
  cases t with
  | mk k b n s l m =>
    simp only [T.kind] at hk
    subst hk
    simp [T.bareB, T.kind, T.bool, T.int, T.str, T.list, T.map] at hb
    obtain ⟨⟨⟨h1, h2⟩, h3⟩, h4⟩ := hb
    replace h2 := of_decide_eq_true h2
    subst h1 h2 h4
    rw [ba_ext (a := s) (b := ⟨#[]⟩) (by rw [h3]; simp [ByteArray.toList_eq])]
    rfl
theorem Good.nomap {t : T} (h : Good t) (hk : t.kind ≠ 5) : t.map = [] := by
  have hb := parts_isbare h.parts
  simp [T.bareB, hk] at hb
  exact hb.2

end Go.Proofs.YtgbbojnigicnoaaDoor
