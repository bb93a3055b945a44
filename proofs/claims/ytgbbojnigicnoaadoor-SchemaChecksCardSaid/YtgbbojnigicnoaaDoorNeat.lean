/- Values that may be, as one hereditary condition; rows of pairs by what they have under each key. -/
import Derived.Test.YtgbbojnigicnoaaDoorCmpEq
namespace Go.Proofs.YtgbbojnigicnoaaDoor

/-- Rows whose keys rise are one if they have the same under each key. -/
theorem KS_ext : ∀ {l m : List (ByteArray × T)}, KS l → KS m → (∀ k, look l k = look m k) → l = m
  | [], [], _, _, _ => rfl
  | [], q :: s, _, _, h => by
    have := h q.1
    rw [look, look, if_pos rfl] at this
    cases this
  | p :: r, [], _, _, h => by
    have := h p.1
    rw [look, look, if_pos rfl] at this
    cases this
  | p :: r, q :: s, hl, hm, h => by
    have nol : ∀ k, (k = p.1 ∨ klt k p.1 = true) → look r k = none := fun k hk => look_not fun z hz e => by
      have := hl.head z hz
      rcases hk with rfl | hk
      · rw [e, klt_irrefl] at this; cases this
      · rw [e] at this; rw [klt_asymm hk] at this; cases this
    have nos : ∀ k, (k = q.1 ∨ klt k q.1 = true) → look s k = none := fun k hk => look_not fun z hz e => by
      have := hm.head z hz
      rcases hk with rfl | hk
      · rw [e, klt_irrefl] at this; cases this
      · rw [e] at this; rw [klt_asymm hk] at this; cases this
    rcases klt_total p.1 q.1 with hk | hk | hk
    · have := h p.1
      rw [look, if_pos rfl, look, if_neg (fun e => klt_ne hk e.symm), nos _ (.inr hk)] at this
      cases this
    · have h1 := h p.1
      rw [look, if_pos rfl, look, if_pos hk.symm] at h1
      injection h1 with h1
      have hpq : p = q := Prod.ext hk h1
      subst hpq
      rw [KS_ext hl.tail hm.tail fun k => by
        by_cases e : p.1 = k
        · rw [nol _ (.inl e.symm), nos _ (.inl e.symm)]
        · have := h k
          rw [look, if_neg e, look, if_neg e] at this
          exact this]
    · have := h q.1
      rw [look, if_neg (fun e => klt_ne hk e.symm), nol _ (.inr hk), look, if_pos rfl] at this
      cases this

theorem KS_cons {p : ByteArray × T} {r : List (ByteArray × T)} (h : KS r) (hp : ∀ q ∈ r, klt p.1 q.1 = true) : KS (p :: r) := KS.cons hp h
theorem look_some {m : List (ByteArray × T)} (h : KS m) {p : ByteArray × T} (hp : p ∈ m) : look m p.1 = some p.2 := by
  induction m with
  | nil => cases hp
  | cons q r ih =>
    rcases List.mem_cons.1 hp with rfl | hp
    · rw [look, if_pos rfl]
    · rw [look, if_neg (klt_ne (h.head _ hp)), ih h.tail hp]

/-- What the order of the keys and their values' parts say together. -/
theorem partsM_iff {m : List (ByteArray × T)} : ∀ {prev : Option ByteArray}, T.partsM prev m = 0 ↔ (∀ p ∈ m, keyB p.1 = true ∧ p.2.parts = 0) ∧ KS m ∧ ∀ q, prev = some q → ∀ p ∈ m, klt q p.1 = true := by
  induction m with
  | nil => intro prev; simp [T.partsM, KS.nil]
  | cons p r ih =>
    intro prev
    rw [partsM_cons]
    have fin : (if T.partsP p ≠ 0 then T.partsP p else T.partsM (some p.1) r) = 0 ↔ p.2.parts = 0 ∧ (∀ q ∈ r, keyB q.1 = true ∧ q.2.parts = 0) ∧ KS (p :: r) := by
      rw [T.partsP_eq]
      by_cases h0 : p.2.parts = 0
      · rw [if_neg (by simpa using h0), ih]
        constructor
        · rintro ⟨a, b, c⟩
          exact ⟨h0, a, KS.cons (fun q hq => c p.1 rfl q hq) b⟩
        · rintro ⟨_, a, c⟩
          exact ⟨a, c.tail, fun q e z hz => by injection e with e; subst e; exact c.head z hz⟩
      · rw [if_pos h0]
        exact ⟨fun h => absurd h h0, fun h => absurd h.1 h0⟩
    by_cases hk : keyB p.1 = true
    · rw [if_pos hk]
      cases prev with
      | none =>
        have : (∀ q, (none : Option ByteArray) = some q → ∀ z ∈ p :: r, klt q z.1 = true) ↔ True := by simp
        rw [this, and_true]
        simp only [List.mem_cons, forall_eq_or_imp]
        simp only [ite_true]
        rw [fin]
        constructor
        · rintro ⟨a, b, c⟩; exact ⟨⟨⟨hk, a⟩, b⟩, c⟩
        · rintro ⟨⟨⟨_, a⟩, b⟩, c⟩; exact ⟨a, b, c⟩
      | some q =>
        by_cases hq : klt q p.1 = true
        · rw [if_pos (by simpa using hq), fin]
          constructor
          · rintro ⟨a, b, c⟩
            refine ⟨fun z hz => ?_, c, fun q' e z hz => ?_⟩
            · rcases List.mem_cons.1 hz with rfl | hz
              · exact ⟨hk, a⟩
              · exact b z hz
            · injection e with e
              subst e
              rcases List.mem_cons.1 hz with rfl | hz
              · exact hq
              · exact klt_trans hq (c.head z hz)
          · rintro ⟨a, c, _⟩
            exact ⟨(a p (by simp)).2, fun z hz => a z (by simp [hz]), c⟩
        · rw [if_neg (by simpa using hq)]
          constructor
          · intro h; simp at h
          · rintro ⟨_, _, c⟩
            exact absurd (c q rfl p (by simp)) hq
    · rw [if_neg hk]
      constructor
      · intro h; simp at h
      · rintro ⟨a, _, _⟩
        exact absurd (a p (by simp)).1 hk
theorem partsL_iff {l : List T} : T.partsL l = 0 ↔ ∀ x ∈ l, x.parts = 0 := by
  constructor
  · exact partsL_mem
  · intro h
    induction l with
    | nil => rfl
    | cons x l ih =>
      rw [T.partsL, if_neg (by simpa using h x (by simp))]
      exact ih fun y hy => h y (by simp [hy])
theorem parts_iff {t : T} : t.parts = 0 ↔ t.bareB = true ∧ textB t.str = true ∧ (∀ x ∈ t.list, x.parts = 0) ∧ (∀ p ∈ t.map, keyB p.1 = true ∧ p.2.parts = 0) ∧ KS t.map := by
  rw [T.parts_eq]
  by_cases h1 : t.bareB = true
  · rw [if_pos h1]
    by_cases h2 : textB t.str = true
    · rw [if_pos h2]
      by_cases h3 : T.partsL t.list = 0
      · rw [if_neg (by simpa using h3), partsM_iff]
        have h4 := partsL_iff.1 h3
        constructor
        · rintro ⟨a, b, -⟩; exact ⟨h1, h2, h4, a, b⟩
        · rintro ⟨-, -, -, a, b⟩; exact ⟨a, b, by simp⟩
      · rw [if_pos h3]
        exact ⟨fun h => absurd h h3, fun h => absurd (partsL_iff.2 h.2.2.1) h3⟩
    · rw [if_neg h2]
      exact ⟨fun h => by simp at h, fun h => absurd h.2.1 h2⟩
  · rw [if_neg h1]
    exact ⟨fun h => by simp at h, fun h => absurd h.1 h1⟩

/-- A value that may be, none of its maps longer than n. -/
inductive Neat (n : Nat) : T → Prop
  | mk {t : T} (hp : t.parts = 0) (hl : t.map.length ≤ n) (hm : ∀ p ∈ t.map, Neat n p.2) : Neat n t
namespace Neat
variable {n : Nat} {t : T}
theorem parts (h : Neat n t) : t.parts = 0 := by cases h; assumption
theorem len (h : Neat n t) : t.map.length ≤ n := by cases h; assumption
theorem mem (h : Neat n t) : ∀ p ∈ t.map, Neat n p.2 := by cases h; assumption
theorem KS (h : Neat n t) : KS t.map := parts_KS h.parts
theorem key (h : Neat n t) : ∀ p ∈ t.map, keyB p.1 = true := fun p hp => ((parts_iff.1 h.parts).2.2.2.1 p hp).1
theorem map (h : Neat n t) (hk : t.kind = 5) : t = mkMap t.map := by
  have hb := parts_isbare h.parts
  cases t with
  | mk k b n s l m =>
    simp only [T.kind] at hk
    subst hk
    simp [T.bareB, T.kind, T.bool, T.int, T.str, T.list, T.map] at hb
    obtain ⟨⟨⟨h1, h2⟩, h3⟩, h4⟩ := hb
    replace h2 := of_decide_eq_true h2
    subst h1 h2 h4
    rw [ba_ext (a := s) (b := ⟨#[]⟩) (by rw [h3]; simp [ByteArray.toList_eq])]
    rfl
theorem nomap (h : Neat n t) (hk : t.kind ≠ 5) : t.map = [] := by
  have hb := parts_isbare h.parts
  simp [T.bareB, hk] at hb
  exact hb.2
theorem mono (h : Neat n t) {k : Nat} (hk : n ≤ k) : Neat k t := by
  induction h with
  | mk hp hl hm ih => exact .mk hp (Nat.le_trans hl hk) ih
theorem look (h : Neat n t) {k : ByteArray} {x : T} (hx : look t.map k = some x) : Neat n x := h.mem _ (look_mem hx)
theorem keyl (h : Neat n t) {k : ByteArray} {x : T} (hx : Go.Proofs.YtgbbojnigicnoaaDoor.look t.map k = some x) : keyB k = true := h.key (k, x) (look_mem hx)
theorem zero : Neat n T.zero := .mk (by decide +kernel) (by simp [T.zero, T.map]) (by simp [T.zero, T.map])
theorem getD (h : Neat n t) (k : ByteArray) : Neat n ((Go.Proofs.YtgbbojnigicnoaaDoor.look t.map k).getD T.zero) := by
  cases e : Go.Proofs.YtgbbojnigicnoaaDoor.look t.map k with
  | none => exact zero
  | some x => exact h.look e
theorem mkMap {m : List (ByteArray × T)} (hks : Go.Proofs.YtgbbojnigicnoaaDoor.KS m) (hl : m.length ≤ n) (hm : ∀ p ∈ m, keyB p.1 = true ∧ Neat n p.2) : Neat n (mkMap m) :=
  .mk (parts_iff.2 ⟨by simp [T.bareB, Go.Proofs.YtgbbojnigicnoaaDoor.mkMap, T.kind, T.bool, T.int, T.str, T.list, ByteArray.toList_eq], by show textB ⟨#[]⟩ = true; decide +kernel, by simp [Go.Proofs.YtgbbojnigicnoaaDoor.mkMap, T.list], fun p hp => ⟨(hm p hp).1, (hm p hp).2.parts⟩, hks⟩) hl fun p hp => (hm p hp).2
end Neat

theorem wt_sub {t : T} : ∀ p ∈ t.map, p.2.wt ≤ t.wt := by
  intro p hp
  have : ∀ {m : List (ByteArray × T)}, p ∈ m → p.2.wt ≤ T.wtM m := by
    intro m
    induction m with
    | nil => intro h; cases h
    | cons q r ih =>
      intro h
      rw [T.wtM]
      rcases List.mem_cons.1 h with rfl | h
      · obtain ⟨k, x⟩ := p; simp only [T.wtP]; omega
      · have := ih h; omega
  have h2 := this hp
  rw [t.wt_eq]
  omega
theorem len_wt (m : List (ByteArray × T)) : m.length ≤ T.wtM m := by
  induction m with
  | nil => simp
  | cons p r ih =>
    obtain ⟨k, x⟩ := p
    have : 1 ≤ x.wt := by rw [T.wt_eq]; omega
    simp only [T.wtM, T.wtP, List.length_cons]; omega
theorem neat_of {t : T} (hp : t.parts = 0) (hw : t.wt ≤ 6000) : Neat 6000 t := by
  induction t using T.ind' with
  | h t ihl ihm =>
    have h1 := len_wt t.map
    have h2 := t.wt_eq
    exact .mk hp (by omega) fun p hm => ihm p hm ((parts_iff.1 hp).2.2.2.1 p hm).2 (Nat.le_trans (wt_sub p hm) hw)
theorem Good.neat {t : T} (h : Good t) : Neat 6000 t := neat_of h.parts h.1

theorem getT_look {n : Nat} {t : T} (h : Neat n t) (k : ByteArray) : getT t k = look t.map k := by
  unfold getT
  by_cases h5 : t.kind = 5
  · rw [if_pos h5]
  · rw [if_neg h5, h.nomap h5]; rfl
theorem getT_mk (m : List (ByteArray × T)) (k : ByteArray) : getT (mkMap m) k = look m k := if_pos rfl
theorem putT_mk {m : List (ByteArray × T)} (h : KS m) (k : ByteArray) (x : T) : putT (mkMap m) k x = mkMap (ins m k x) := by
  unfold putT baseM
  rw [if_pos (show (mkMap m).kind = 5 from rfl), show (mkMap m).map = m from rfl, mapT_self h]
theorem dropT_mk (m : List (ByteArray × T)) (k : ByteArray) : dropT (mkMap m) k = mkMap (del m k) := rfl
theorem putT_ins {n : Nat} {t : T} (h : Neat n t) (k : ByteArray) (x : T) : putT t k x = mkMap (ins t.map k x) := by
  unfold putT baseM
  by_cases h5 : t.kind = 5
  · rw [if_pos h5, mapT_self h.KS]
  · rw [if_neg h5, h.nomap h5]; rfl
theorem mem_del {m : List (ByteArray × T)} {k : ByteArray} {p : ByteArray × T} (h : p ∈ del m k) : p ∈ m := (List.mem_filter.1 h).1
theorem del_len (m : List (ByteArray × T)) (k : ByteArray) : (del m k).length ≤ m.length := List.length_filter_le _ _

end Go.Proofs.YtgbbojnigicnoaaDoor
