/- How two values compare: the plain order, and its laws. -/
import Derived.Test.YtgbbojnigicnoaaDoorKeys
namespace Go.Proofs.YtgbbojnigicnoaaDoor

def icmp (a b : Int) : Int := if a < b then -1 else if b < a then 1 else 0
def bcmp (a b : Bool) : Int := if a = b then 0 else if b then -1 else 1

mutual
def T.cmp : T → T → Int
  | .mk k b n s l m, t =>
    if k ≠ t.kind then icmp k t.kind
    else if k = 1 then bcmp b t.bool
    else if k = 2 then icmp n t.int
    else if k = 3 then kcmp s t.str
    else if k = 4 then T.cmpL l t.list
    else if k = 5 then T.cmpM m t.map
    else 0
def T.cmpL : List T → List T → Int
  | [], [] => 0
  | [], _ :: _ => -1
  | _ :: _, [] => 1
  | x :: l, y :: r => if T.cmp x y ≠ 0 then T.cmp x y else T.cmpL l r
def T.cmpM : List (ByteArray × T) → List (ByteArray × T) → Int
  | [], [] => 0
  | [], _ :: _ => -1
  | _ :: _, [] => 1
  | p :: l, q :: r => if T.cmpP p q ≠ 0 then T.cmpP p q else T.cmpM l r
def T.cmpP : (ByteArray × T) → (ByteArray × T) → Int
  | (k, x), q => if kcmp k q.1 ≠ 0 then kcmp k q.1 else T.cmp x q.2
end
theorem T.cmp_eq (a b : T) : a.cmp b = if a.kind ≠ b.kind then icmp a.kind b.kind else if a.kind = 1 then bcmp a.bool b.bool else if a.kind = 2 then icmp a.int b.int else if a.kind = 3 then kcmp a.str b.str
    else if a.kind = 4 then T.cmpL a.list b.list else if a.kind = 5 then T.cmpM a.map b.map else 0 := by
  cases a; rw [T.cmp]; rfl
theorem T.cmpP_eq (p q : ByteArray × T) : T.cmpP p q = if kcmp p.1 q.1 ≠ 0 then kcmp p.1 q.1 else T.cmp p.2 q.2 := by cases p; rw [T.cmpP]

/-- What holds of one thing compared with all others. -/
structure Cmp1 {α : Type} (c : α → α → Int) (x : α) : Prop where
  refl : c x x = 0
  range : ∀ y, c x y = -1 ∨ c x y = 0 ∨ c x y = 1
  anti : ∀ y, c y x = - c x y
  left : ∀ y z, c x y = 0 → c x z = c y z
  right : ∀ y z, c y z = 0 → c x z = c x y
  trans : ∀ y z, c x y < 0 → c y z < 0 → c x z < 0

theorem icmp_1 (x : Int) : Cmp1 icmp x where
  refl := by simp [icmp]
  range y := by unfold icmp; (repeat' split) <;> omega
  anti y := by unfold icmp; (repeat' split) <;> omega
  left y z h := by unfold icmp at *; (repeat' split at h) <;> (repeat' split) <;> omega
  right y z h := by unfold icmp at *; (repeat' split at h) <;> (repeat' split) <;> omega
  trans y z h k := by unfold icmp at *; (repeat' split at h) <;> (repeat' split at k) <;> (repeat' split) <;> omega
theorem bcmp_1 (x : Bool) : Cmp1 bcmp x where
  refl := by simp [bcmp]
  range y := by cases x <;> cases y <;> simp [bcmp]
  anti y := by cases x <;> cases y <;> simp [bcmp]
  left y z h := by cases x <;> cases y <;> cases z <;> simp_all [bcmp]
  right y z h := by cases x <;> cases y <;> cases z <;> simp_all [bcmp]
  trans y z h k := by cases x <;> cases y <;> cases z <;> simp_all [bcmp]
theorem kcmp_1 (x : ByteArray) : Cmp1 kcmp x := by
  have key : ∀ a b, (klt a b = true ∧ a ≠ b ∧ klt b a = false ∧ kcmp a b = -1) ∨ (a = b ∧ kcmp a b = 0) ∨ (klt b a = true ∧ a ≠ b ∧ klt a b = false ∧ kcmp a b = 1) := fun a b => by
    rcases klt_total a b with h | rfl | h
    · exact .inl ⟨h, klt_ne h, klt_asymm h, by simp [kcmp, h]⟩
    · exact .inr (.inl ⟨rfl, by simp [kcmp, klt_irrefl]⟩)
    · have hn : a ≠ b := fun e => klt_ne h e.symm
      exact .inr (.inr ⟨h, hn, klt_asymm h, by simp [kcmp, klt_asymm h, hn]⟩)
  refine ⟨by simp [kcmp, klt_irrefl], fun y => ?_, fun y => ?_, fun y z h => ?_, fun y z h => ?_, fun y z h k => ?_⟩
  · rcases key x y with h | h | h
    · exact .inl h.2.2.2
    · exact .inr (.inl h.2)
    · exact .inr (.inr h.2.2.2)
  · rcases key x y with h | h | h
    · have : kcmp y x = 1 := by simp [kcmp, h.2.2.1, Ne.symm h.2.1]
      rw [this, h.2.2.2]; rfl
    · rw [h.1, show kcmp y y = 0 by simp [kcmp, klt_irrefl]]; rfl
    · have : kcmp y x = -1 := by simp [kcmp, h.1]
      rw [this, h.2.2.2]
  · rcases key x y with h' | h' | h' <;> first | (rw [h'.1]; done) | omega
  · rcases key y z with h' | h' | h' <;> first | (rw [h'.1]; done) | omega
  · rcases key x y with h' | h' | h'
    · rcases key y z with k' | k' | k'
      · simp [kcmp, klt_trans h'.1 k'.1]
      · omega
      · omega
    · omega
    · omega

theorem pair_1 {p : ByteArray × T} (h : Cmp1 T.cmp p.2) : Cmp1 T.cmpP p := by
  have hk := kcmp_1 p.1
  refine ⟨?_, fun y => ?_, fun y => ?_, fun y z e => ?_, fun y z e => ?_, fun y z e f => ?_⟩
  · rw [T.cmpP_eq, if_neg (by simp [hk.refl])]; exact h.refl
  · rw [T.cmpP_eq]; split
    · exact hk.range _
    · exact h.range _
  · have a := hk.anti y.1
    have b := h.anti y.2
    simp only [T.cmpP_eq]
    by_cases e : kcmp p.1 y.1 = 0
    · rw [if_neg (by omega), if_neg (by omega)]; exact b
    · rw [if_pos (by omega), if_pos (by omega)]; exact a
  · have a := hk.left y.1 z.1
    have b := h.left y.2 z.2
    simp only [T.cmpP_eq] at *
    by_cases e1 : kcmp p.1 y.1 = 0
    · rw [if_neg (by omega)] at e
      rw [a e1, b e]
    · rw [if_pos (by omega)] at e; omega
  · have a := hk.right y.1 z.1
    have b := h.right y.2 z.2
    simp only [T.cmpP_eq] at *
    by_cases e1 : kcmp y.1 z.1 = 0
    · rw [if_neg (by omega)] at e
      rw [a e1, b e]
    · rw [if_pos (by omega)] at e; omega
  · have a := hk.trans y.1 z.1
    have a1 := hk.left y.1 z.1
    have a2 := hk.right y.1 z.1
    have b := h.trans y.2 z.2
    simp only [T.cmpP_eq] at *
    by_cases e1 : kcmp p.1 y.1 = 0
    · rw [if_neg (by omega)] at e
      rw [a1 e1]
      by_cases e2 : kcmp y.1 z.1 = 0
      · rw [if_neg (by omega)] at f ⊢
        exact b e f
      · rw [if_pos (by omega)] at f ⊢
        exact f
    · rw [if_pos (by omega)] at e
      by_cases e2 : kcmp y.1 z.1 = 0
      · rw [if_neg (by omega)] at f
        rw [a2 e2, if_pos (by omega)]; exact e
      · rw [if_pos (by omega)] at f
        have := a e f
        rw [if_pos (by omega)]; exact this

theorem listL_1 (l : List T) (h : ∀ x ∈ l, Cmp1 T.cmp x) : Cmp1 T.cmpL l := by
  induction l with
  | nil =>
    refine ⟨by simp [T.cmpL], fun y => ?_, fun y => ?_, fun y z e => ?_, fun y z e => ?_, fun y z e f => ?_⟩
    · cases y <;> simp [T.cmpL]
    · cases y <;> simp [T.cmpL]
    · cases y
      · rfl
      · simp [T.cmpL] at e
    · cases y <;> cases z <;> first | rfl | (simp [T.cmpL] at e; done) | (simp [T.cmpL]; done)
    · cases y
      · simp [T.cmpL] at e
      · cases z
        · simp [T.cmpL] at f
        · simp [T.cmpL]
  | cons x l ih =>
    have hx := h x (by simp)
    have hl := ih (fun y hy => h y (by simp [hy]))
    refine ⟨?_, fun y => ?_, fun y => ?_, fun y z e => ?_, fun y z e => ?_, fun y z e f => ?_⟩
    · simp only [T.cmpL]; rw [if_neg (by simp [hx.refl])]; exact hl.refl
    · cases y with
      | nil => simp [T.cmpL]
      | cons y r => simp only [T.cmpL]; split
                    · exact hx.range _
                    · exact hl.range _
    · cases y with
      | nil => simp [T.cmpL]
      | cons y r =>
        have a := hx.anti y
        have b := hl.anti r
        simp only [T.cmpL]
        by_cases e : T.cmp x y = 0
        · rw [if_neg (by omega), if_neg (by omega)]; exact b
        · rw [if_pos (by omega), if_pos (by omega)]; exact a
    · cases y with
      | nil => simp [T.cmpL] at e
      | cons y r =>
        cases z with
        | nil => simp [T.cmpL]
        | cons z u =>
          have a := hx.left y z
          have b := hl.left r u
          simp only [T.cmpL] at *
          by_cases e1 : T.cmp x y = 0
          · rw [if_neg (by omega)] at e
            rw [a e1, b e]
          · rw [if_pos (by omega)] at e; omega
    · cases y with
      | nil => cases z with
        | nil => rfl
        | cons z u => simp [T.cmpL] at e
      | cons y r =>
        cases z with
        | nil => simp [T.cmpL] at e
        | cons z u =>
          have a := hx.right y z
          have b := hl.right r u
          simp only [T.cmpL] at *
          by_cases e1 : T.cmp y z = 0
          · rw [if_neg (by omega)] at e
            rw [a e1, b e]
          · rw [if_pos (by omega)] at e; omega
    · cases y with
      | nil => simp [T.cmpL] at e
      | cons y r =>
        cases z with
        | nil => simp [T.cmpL] at f
        | cons z u =>
          have a := hx.trans y z
          have a1 := hx.left y z
          have a2 := hx.right y z
          have b := hl.trans r u
          simp only [T.cmpL] at *
          by_cases e1 : T.cmp x y = 0
          · rw [if_neg (by omega)] at e
            rw [a1 e1]
            by_cases e2 : T.cmp y z = 0
            · rw [if_neg (by omega)] at f ⊢
              exact b e f
            · rw [if_pos (by omega)] at f ⊢
              exact f
          · rw [if_pos (by omega)] at e
            by_cases e2 : T.cmp y z = 0
            · rw [if_neg (by omega)] at f
              rw [a2 e2, if_pos (by omega)]; exact e
            · rw [if_pos (by omega)] at f
              have := a e f
              rw [if_pos (by omega)]; exact this

theorem listM_1 (l : List (ByteArray × T)) (h : ∀ p ∈ l, Cmp1 T.cmp p.2) : Cmp1 T.cmpM l := by
  induction l with
  | nil =>
    refine ⟨by simp [T.cmpM], fun y => ?_, fun y => ?_, fun y z e => ?_, fun y z e => ?_, fun y z e f => ?_⟩
    · cases y <;> simp [T.cmpM]
    · cases y <;> simp [T.cmpM]
    · cases y
      · rfl
      · simp [T.cmpM] at e
    · cases y <;> cases z <;> first | rfl | (simp [T.cmpM] at e; done) | (simp [T.cmpM]; done)
    · cases y
      · simp [T.cmpM] at e
      · cases z
        · simp [T.cmpM] at f
        · simp [T.cmpM]
  | cons x l ih =>
    have hx := pair_1 (h x (by simp))
    have hl := ih (fun y hy => h y (by simp [hy]))
    refine ⟨?_, fun y => ?_, fun y => ?_, fun y z e => ?_, fun y z e => ?_, fun y z e f => ?_⟩
    · simp only [T.cmpM]; rw [if_neg (by simp [hx.refl])]; exact hl.refl
    · cases y with
      | nil => simp [T.cmpM]
      | cons y r => simp only [T.cmpM]; split
                    · exact hx.range _
                    · exact hl.range _
    · cases y with
      | nil => simp [T.cmpM]
      | cons y r =>
        have a := hx.anti y
        have b := hl.anti r
        simp only [T.cmpM]
        by_cases e : T.cmpP x y = 0
        · rw [if_neg (by omega), if_neg (by omega)]; exact b
        · rw [if_pos (by omega), if_pos (by omega)]; exact a
    · cases y with
      | nil => simp [T.cmpM] at e
      | cons y r =>
        cases z with
        | nil => simp [T.cmpM]
        | cons z u =>
          have a := hx.left y z
          have b := hl.left r u
          simp only [T.cmpM] at *
          by_cases e1 : T.cmpP x y = 0
          · rw [if_neg (by omega)] at e
            rw [a e1, b e]
          · rw [if_pos (by omega)] at e; omega
    · cases y with
      | nil => cases z with
        | nil => rfl
        | cons z u => simp [T.cmpM] at e
      | cons y r =>
        cases z with
        | nil => simp [T.cmpM] at e
        | cons z u =>
          have a := hx.right y z
          have b := hl.right r u
          simp only [T.cmpM] at *
          by_cases e1 : T.cmpP y z = 0
          · rw [if_neg (by omega)] at e
            rw [a e1, b e]
          · rw [if_pos (by omega)] at e; omega
    · cases y with
      | nil => simp [T.cmpM] at e
      | cons y r =>
        cases z with
        | nil => simp [T.cmpM] at f
        | cons z u =>
          have a := hx.trans y z
          have a1 := hx.left y z
          have a2 := hx.right y z
          have b := hl.trans r u
          simp only [T.cmpM] at *
          by_cases e1 : T.cmpP x y = 0
          · rw [if_neg (by omega)] at e
            rw [a1 e1]
            by_cases e2 : T.cmpP y z = 0
            · rw [if_neg (by omega)] at f ⊢
              exact b e f
            · rw [if_pos (by omega)] at f ⊢
              exact f
          · rw [if_pos (by omega)] at e
            by_cases e2 : T.cmpP y z = 0
            · rw [if_neg (by omega)] at f
              rw [a2 e2, if_pos (by omega)]; exact e
            · rw [if_pos (by omega)] at f
              have := a e f
              rw [if_pos (by omega)]; exact this

/-- How two values of one kind compare. -/
def cmpK (k : Int) (a b : T) : Int := if k = 1 then bcmp a.bool b.bool else if k = 2 then icmp a.int b.int else if k = 3 then kcmp a.str b.str else if k = 4 then T.cmpL a.list b.list else if k = 5 then T.cmpM a.map b.map else 0
theorem T.cmp_K (a b : T) : a.cmp b = if a.kind ≠ b.kind then icmp a.kind b.kind else cmpK a.kind a b := T.cmp_eq a b
theorem Cmp1.on {α β : Type} {c : β → β → Int} {f : α → β} {x : α} (h : Cmp1 c (f x)) : Cmp1 (fun a b => c (f a) (f b)) x :=
  ⟨h.refl, fun _ => h.range _, fun _ => h.anti _, fun _ _ => h.left _ _, fun _ _ => h.right _ _, fun _ _ => h.trans _ _⟩
/-- Values stand in one order. -/
theorem cmp_1 (t : T) : Cmp1 T.cmp t := by
  induction t using T.ind' with
  | h t ihl ihm =>
  have hk := icmp_1 t.kind
  have kk : ∀ a b : Int, a ≠ b → icmp a b ≠ 0 := fun a b h e => by unfold icmp at e; (repeat' split at e) <;> omega
  have hK : ∀ k, Cmp1 (cmpK k) t := fun k => by
    by_cases h1 : k = 1
    · rw [show cmpK k = fun a b => bcmp a.bool b.bool by funext a b; simp [cmpK, h1]]; exact (bcmp_1 t.bool).on
    by_cases h2 : k = 2
    · rw [show cmpK k = fun a b => icmp a.int b.int by funext a b; simp [cmpK, h2]]; exact (icmp_1 t.int).on
    by_cases h3 : k = 3
    · rw [show cmpK k = fun a b => kcmp a.str b.str by funext a b; simp [cmpK, h3]]; exact (kcmp_1 t.str).on
    by_cases h4 : k = 4
    · rw [show cmpK k = fun a b => T.cmpL a.list b.list by funext a b; simp [cmpK, h4]]; exact (listL_1 t.list ihl).on
    by_cases h5 : k = 5
    · rw [show cmpK k = fun a b => T.cmpM a.map b.map by funext a b; simp [cmpK, h5]]; exact (listM_1 t.map ihm).on
    rw [show cmpK k = fun _ _ => 0 by funext a b; simp [cmpK, h1, h2, h3, h4, h5]]
    exact ⟨rfl, fun _ => by simp, fun _ => rfl, fun _ _ _ => rfl, fun _ _ _ => rfl, fun _ _ h _ => h⟩
  refine ⟨?_, fun y => ?_, fun y => ?_, fun y z e => ?_, fun y z e => ?_, fun y z e f => ?_⟩
  · rw [T.cmp_K, if_neg (by simp)]; exact (hK _).refl
  · rw [T.cmp_K]
    split
    · exact hk.range _
    · exact (hK _).range _
  · rw [T.cmp_K t y, T.cmp_K y t]
    by_cases h : t.kind = y.kind
    · rw [if_neg (by omega), if_neg (by omega), ← h]; exact (hK _).anti _
    · rw [if_pos (by omega), if_pos (by omega)]; exact hk.anti _
  · rw [T.cmp_K t y] at e
    by_cases h : t.kind = y.kind
    · rw [if_neg (by omega)] at e
      rw [T.cmp_K t z, T.cmp_K y z, ← h, (hK _).left _ _ e]
    · rw [if_pos h] at e; exact absurd e (kk _ _ h)
  · rw [T.cmp_K y z] at e
    by_cases h : y.kind = z.kind
    · rw [if_neg (by omega)] at e
      rw [T.cmp_K t z, T.cmp_K t y, ← h]
      by_cases h2 : t.kind = y.kind
      · rw [← h2] at e
        rw [if_neg (by omega), if_neg (by omega), (hK _).right _ _ e]
      · rw [if_pos h2, if_pos h2]
    · rw [if_pos h] at e; exact absurd e (kk _ _ h)
  · rw [T.cmp_K t y] at e
    rw [T.cmp_K y z] at f
    rw [T.cmp_K t z]
    by_cases h : t.kind = y.kind
    · rw [if_neg (by omega)] at e
      by_cases h2 : t.kind = z.kind
      · rw [if_neg (by omega)]
        rw [if_neg (by omega), ← h] at f
        exact (hK _).trans _ _ e f
      · rw [if_pos (by omega), ← h] at f
        rw [if_pos h2]; exact f
    · rw [if_pos h] at e
      by_cases h2 : y.kind = z.kind
      · rw [h2] at e h
        rw [if_pos h]; exact e
      · rw [if_pos h2] at f
        have := hk.trans _ _ e f
        by_cases h3 : t.kind = z.kind
        · rw [h3] at this; unfold icmp at this; simp at this
        · rw [if_pos h3]; exact this

end Go.Proofs.YtgbbojnigicnoaaDoor
