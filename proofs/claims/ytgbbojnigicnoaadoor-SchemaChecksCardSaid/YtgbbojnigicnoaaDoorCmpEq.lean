/- Values that may be and compare as one are one. -/
import Derived.Test.YtgbbojnigicnoaaDoorPure
namespace Go.Proofs.YtgbbojnigicnoaaDoor

theorem partsL_mem {l : List T} (h : T.partsL l = 0) : ∀ x ∈ l, x.parts = 0 := by
  induction l with
  | nil => simp
  | cons x l ih =>
    rw [T.partsL] at h
    by_cases h0 : x.parts ≠ 0
    · rw [if_pos h0] at h; exact absurd h h0
    · rw [if_neg h0] at h
      intro y hy
      rcases List.mem_cons.1 hy with rfl | hy
      · exact Classical.not_not.1 h0
      · exact ih h y hy
theorem partsM_mem {m : List (ByteArray × T)} : ∀ {prev : Option ByteArray}, T.partsM prev m = 0 → ∀ p ∈ m, p.2.parts = 0 := by
  induction m with
  | nil => intro _ _; simp
  | cons p r ih =>
    intro prev h
    rw [partsM_cons] at h
    by_cases hk : keyB p.1 = true
    · rw [if_pos hk] at h
      have fin : (if T.partsP p ≠ 0 then T.partsP p else T.partsM (some p.1) r) = 0 → ∀ q ∈ p :: r, q.2.parts = 0 := fun h => by
        by_cases h0 : T.partsP p ≠ 0
        · rw [if_pos h0] at h; exact absurd h h0
        · rw [if_neg h0] at h
          intro q hq
          rcases List.mem_cons.1 hq with rfl | hq
          · rw [← T.partsP_eq]; exact Classical.not_not.1 h0
          · exact ih h q hq
      cases prev with
      | none => exact fin (by simpa using h)
      | some q =>
        by_cases hq : klt q p.1 = true
        · rw [if_pos (by simpa using hq)] at h; exact fin h
        · rw [if_neg (by simpa using hq)] at h; simp at h
    · rw [if_neg hk] at h; simp at h
theorem parts_of {t : T} (h : t.parts = 0) : (∀ x ∈ t.list, x.parts = 0) ∧ ∀ p ∈ t.map, p.2.parts = 0 := by
  rw [T.parts_eq] at h
  by_cases h1 : t.bareB = true
  · rw [if_pos h1] at h
    by_cases h2 : textB t.str = true
    · rw [if_pos h2] at h
      by_cases h3 : T.partsL t.list ≠ 0
      · rw [if_pos h3] at h; exact absurd h h3
      · rw [if_neg h3] at h
        exact ⟨partsL_mem (Classical.not_not.1 h3), partsM_mem h⟩
    · rw [if_neg h2] at h; simp at h
  · rw [if_neg h1] at h; simp at h

theorem T.eq_of {a b : T} : a = b ↔ a.kind = b.kind ∧ a.bool = b.bool ∧ a.int = b.int ∧ a.str = b.str ∧ a.list = b.list ∧ a.map = b.map := by
  cases a; cases b; simp [T.kind, T.bool, T.int, T.str, T.list, T.map]
theorem cmp_is {a b : T} (ha : a.parts = 0) (hb : b.parts = 0) (h : T.cmp a b = 0) : a = b := by
  induction a using T.ind' generalizing b with
  | h a ihl ihm =>
  obtain ⟨al, am⟩ := parts_of ha
  obtain ⟨bl, bm⟩ := parts_of hb
  have e1 := parts_isbare ha
  have e2 := parts_isbare hb
  rw [T.cmp_eq] at h
  by_cases hk : a.kind = b.kind
  · rw [if_neg (by omega)] at h
    unfold T.bareB at e1 e2
    simp only [Bool.and_eq_true, Bool.or_eq_true, decide_eq_true_eq, Bool.not_eq_true', List.isEmpty_iff] at e1 e2
    obtain ⟨⟨⟨⟨⟨⟨_, _⟩, p1⟩, p2⟩, p3⟩, p4⟩, p5⟩ := e1
    obtain ⟨⟨⟨⟨⟨⟨_, _⟩, q1⟩, q2⟩, q3⟩, q4⟩, q5⟩ := e2
    have es : a.kind ≠ 3 → a.str = b.str := fun hne => ba_ext (by
      rcases p3 with p | p
      · exact absurd p hne
      · rcases q3 with q | q
        · exact absurd (hk.trans q) hne
        · rw [p, q])
    rw [T.eq_of]
    refine ⟨hk, ?_, ?_, ?_, ?_, ?_⟩
    · by_cases k1 : a.kind = 1
      · rw [if_pos k1] at h
        unfold bcmp at h
        split at h
        · assumption
        · split at h <;> simp at h
      · rcases p1 with p | p
        · exact absurd p k1
        · rcases q1 with q | q
          · exact absurd (hk.trans q) k1
          · rw [p, q]
    · by_cases k1 : a.kind = 2
      · rw [if_neg (by omega), if_pos k1] at h
        unfold icmp at h
        (repeat' split at h) <;> omega
      · rcases p2 with p | p
        · exact absurd p k1
        · rcases q2 with q | q
          · exact absurd (hk.trans q) k1
          · rw [p, q]
    · by_cases k1 : a.kind = 3
      · rw [if_neg (by omega), if_neg (by omega), if_pos k1] at h
        exact (kcmp_zero _ _).1 h
      · exact es k1
    · by_cases k1 : a.kind = 4
      · rw [if_neg (by omega), if_neg (by omega), if_neg (by omega), if_pos k1] at h
        clear p1 p2 p3 p4 p5 q1 q2 q3 q4 q5 es
        generalize a.list = l at *
        generalize b.list = r at *
        clear ha hb am bm
        induction l generalizing r with
        | nil => cases r with
          | nil => rfl
          | cons y r => simp [T.cmpL] at h
        | cons x l ih =>
          cases r with
          | nil => simp [T.cmpL] at h
          | cons y r =>
            rw [T.cmpL] at h
            by_cases h0 : T.cmp x y ≠ 0
            · rw [if_pos h0] at h; exact absurd h h0
            · rw [if_neg h0] at h
              rw [ihl x (by simp) (al x (by simp)) (bl y (by simp)) (Classical.not_not.1 h0), ih (fun z hz => ihl z (by simp [hz])) (fun z hz => al z (by simp [hz])) r (fun z hz => bl z (by simp [hz])) h]
      · rcases p4 with p | p
        · exact absurd p k1
        · rcases q4 with q | q
          · exact absurd (hk.trans q) k1
          · rw [p, q]
    · by_cases k1 : a.kind = 5
      · rw [if_neg (by omega), if_neg (by omega), if_neg (by omega), if_neg (by omega), if_pos k1] at h
        clear p1 p2 p3 p4 p5 q1 q2 q3 q4 q5 es
        generalize a.map = l at *
        generalize b.map = r at *
        clear ha hb al bl
        induction l generalizing r with
        | nil => cases r with
          | nil => rfl
          | cons y r => simp [T.cmpM] at h
        | cons x l ih =>
          cases r with
          | nil => simp [T.cmpM] at h
          | cons y r =>
            rw [T.cmpM] at h
            by_cases h0 : T.cmpP x y ≠ 0
            · rw [if_pos h0] at h; exact absurd h h0
            · rw [if_neg h0] at h
              have h1 := Classical.not_not.1 h0
              rw [T.cmpP_eq] at h1
              by_cases h2 : kcmp x.1 y.1 ≠ 0
              · rw [if_pos h2] at h1; exact absurd h1 h2
              · rw [if_neg h2] at h1
                have e1 := (kcmp_zero _ _).1 (Classical.not_not.1 h2)
                have e2 := ihm x (by simp) (am x (by simp)) (bm y (by simp)) h1
                rw [Prod.ext e1 e2, ih (fun z hz => ihm z (by simp [hz])) (fun z hz => am z (by simp [hz])) r (fun z hz => bm z (by simp [hz])) h]
      · rcases p5 with p | p
        · exact absurd p k1
        · rcases q5 with q | q
          · exact absurd (hk.trans q) k1
          · rw [p, q]
  · rw [if_pos hk] at h
    exfalso
    unfold icmp at h
    (repeat' split at h) <;> omega
theorem cmp_iff {a b : T} (ha : Good a) (hb : Good b) : T.cmp a b = 0 ↔ a = b :=
  ⟨cmp_is ha.parts hb.parts, fun e => e ▸ (cmp_1 a).refl⟩

end Go.Proofs.YtgbbojnigicnoaaDoor
