/- Objects as elements of rows; IDs in order; slices.Insert into a row of objects of the call's own. -/
import Derived.Test.YtdgeegfoocoohaaDoorInsertO
import Derived.Test.YtdgeegfoocoohaaDoorGen
import Derived.Test.YtdgeegfoocoohaaDoorObjWR
namespace Go.Proofs.YtdgeegfoocoohaaDoor
open Go.RowKit Go.Lib

def ID3.ok (a : ID3) : Prop := a.k.size ≤ 140737488351232 ∧ a.s.size ≤ 140737488351232 ∧ a.n.size ≤ 140737488351232
def eltO : Elt (ID3 × T) where
  ty := 35
  slt := 22
  sz := 9
  bytes := 136
  zero := .agg #[.string ⟨#[]⟩, .string ⟨#[]⟩, .string ⟨#[]⟩, .int .i64 0, .bool false, .int .i64 0, .string ⟨#[]⟩, .slice none 0 0, .slice none 0 0]
  R w S cs p := ∃ r, cs = .string p.1.k :: .string p.1.s :: .string p.1.n :: r ∧ p.1.ok ∧ RepT w S (.agg r.toArray) p.2
  len h := by
    obtain ⟨r, rfl, _, hr⟩ := h
    simp [(tree_one hr).1]
  one h := by
    obtain ⟨r, rfl, _, hr⟩ := h
    intro u hu
    simp only [List.mem_cons] at hu
    rcases hu with rfl | rfl | rfl | hu
    · rfl
    · rfl
    · rfl
    · exact (tree_one hr).2 u hu
  mono h hS hw := by
    obtain ⟨r, e, hz, hr⟩ := h
    exact ⟨r, e, hz, hr.mono hS hw⟩
  pos := by decide
  hund := und_objsO
  hinfo := obj_infoO
  hzero := rfl
/-- Element i of a slice of objects. -/
theorem RepO.at_ {w : World} {S : Nat → Prop} {a : Option Addr} {l : List (ID3 × T)} (h : RepE eltO w S a l) {i : Nat} (hi : i < l.length) : ∃ b o la lc ma mc, a = some ⟨b, o, none⟩ ∧ S b ∧ b < w.heap.size ∧ l[i].1.ok ∧
    (w.cell? ⟨b, o + i * 9, none⟩ = some (.string l[i].1.k) ∧ w.cell? ⟨b, o + i * 9 + 1, none⟩ = some (.string l[i].1.s) ∧ w.cell? ⟨b, o + i * 9 + 2, none⟩ = some (.string l[i].1.n) ∧ w.cell? ⟨b, o + i * 9 + 3, none⟩ = some (.int .i64 l[i].2.kind) ∧ w.cell? ⟨b, o + i * 9 + 4, none⟩ = some (.bool l[i].2.bool) ∧ w.cell? ⟨b, o + i * 9 + 5, none⟩ = some (.int .i64 l[i].2.int) ∧
      w.cell? ⟨b, o + i * 9 + 6, none⟩ = some (.string l[i].2.str) ∧ w.cell? ⟨b, o + i * 9 + 7, none⟩ = some (.slice la l[i].2.list.length lc) ∧ w.cell? ⟨b, o + i * 9 + 8, none⟩ = some (.slice ma l[i].2.map.length mc)) ∧
    RepT w S (.agg #[.int .i64 l[i].2.kind, .bool l[i].2.bool, .int .i64 l[i].2.int, .string l[i].2.str, .slice la l[i].2.list.length lc, .slice ma l[i].2.map.length mc]) l[i].2 := by
  obtain ⟨b, o, cs, e, hb, hc, r, rfl, hz, hr⟩ := h i hi
  obtain ⟨la, lc, ma, mc, hv, hp⟩ := hr.inv
  have := agg_list hv
  subst this
  exact ⟨b, o, la, lc, ma, mc, e, hb, hc.lt, hz, ⟨hc 0 _ rfl, hc 1 _ rfl, hc 2 _ rfl, hc 3 _ rfl, hc 4 _ rfl, hc 5 _ rfl, hc 6 _ rfl, hc 7 _ rfl, hc 8 _ rfl⟩, hr⟩

/-! ### IDs in order -/
theorem kneg (a b : ByteArray) : kcmp a b < 0 ↔ klt a b = true := by
  unfold kcmp
  split
  · simp_all
  · split <;> simp_all
theorem cmpN_neg (a b : Nat) : cmpN a b < 0 ↔ a < b := by unfold cmpN; repeat' split; all_goals (first | omega | (simp; omega))
theorem cmpID_neg (a b : ID3) : cmpID a b < 0 ↔ rankK a.k < rankK b.k ∨ (rankK a.k = rankK b.k ∧ (klt a.k b.k = true ∨ (a.k = b.k ∧ (klt a.s b.s = true ∨ (a.s = b.s ∧ klt a.n b.n = true))))) := by
  rw [← cmpN_neg, ← cmpN_zero, ← kneg, ← kneg, ← kneg, ← kcmpO_zero a.k, ← kcmpO_zero a.s]
  unfold cmpID
  simp only [orL]
  generalize cmpN (rankK a.k) (rankK b.k) = x
  generalize kcmp a.k b.k = y
  generalize kcmp a.s b.s = z
  generalize kcmp a.n b.n = u
  repeat' split
  all_goals omega
theorem cmpID_trans {a b c : ID3} (h : cmpID a b < 0) (g : cmpID b c < 0) : cmpID a c < 0 := by
  rw [cmpID_neg] at *
  obtain ⟨ak, as1, an⟩ := a
  obtain ⟨bk, bs, bn⟩ := b
  obtain ⟨ck, cs, cn⟩ := c
  simp only at *
  rcases h with h | ⟨h0, h | ⟨rfl, h | ⟨rfl, h⟩⟩⟩
  all_goals rcases g with g | ⟨g0, g | ⟨rfl, g | ⟨rfl, g⟩⟩⟩
  all_goals first
    | (left; omega)
    | (right; refine ⟨by omega, ?_⟩; first
        | (left; first | exact klt_trans h g | exact h | exact g)
        | (right; refine ⟨rfl, ?_⟩; first
            | (left; first | exact klt_trans h g | exact h | exact g)
            | (right; exact ⟨rfl, klt_trans h g⟩)))
/-- The IDs rise. -/
def KO (l : List (ID3 × T)) : Prop := ∀ i j (hj : j < l.length) (h : i < j), cmpID (l[i]'(by omega)).1 l[j].1 < 0
theorem KO.nil : KO [] := fun i j hj => by simp at hj
/-- Where an ID stands, or would stand. -/
def SrchO (l : List (ID3 × T)) (id : ID3) (i : Nat) (f : Bool) : Prop :=
  i ≤ l.length ∧ (∀ j (h : j < l.length), j < i → cmpID l[j].1 id < 0) ∧ (∀ j (h : j < l.length), i ≤ j → 0 ≤ cmpID l[j].1 id) ∧ (f = true ↔ ∃ h : i < l.length, l[i].1 = id)
def insO (l : List (ID3 × T)) (i : Nat) (x : ID3 × T) : List (ID3 × T) := l.take i ++ x :: l.drop i
section
variable {l : List (ID3 × T)} {i : Nat} {x : ID3 × T} {id : ID3}
theorem insO_len (hi : i ≤ l.length) : (insO l i x).length = l.length + 1 := by unfold insO; simp; omega
theorem insO_get (hi : i ≤ l.length) {j : Nat} (hj : j < (insO l i x).length) :
    (∃ h : j < i ∧ j < l.length, (insO l i x)[j] = l[j]'h.2) ∨ (j = i ∧ (insO l i x)[j] = x) ∨ ∃ h : i < j ∧ j - 1 < l.length, (insO l i x)[j] = l[j - 1]'h.2 := by
  have hn := insO_len (x := x) hi
  have hp : (l.take i).length = i := by rw [List.length_take]; omega
  have e := List.getElem?_eq_getElem hj
  generalize (insO l i x)[j] = y at e
  unfold insO at e
  rcases Nat.lt_trichotomy j i with h | h | h
  · left
    rw [List.getElem?_append_left (by omega), List.getElem?_take_of_lt h, List.getElem?_eq_getElem (by omega)] at e
    exact ⟨⟨h, by omega⟩, (Option.some.inj e).symm⟩
  · right; left
    subst h
    rw [List.getElem?_append_right (by omega), hp, Nat.sub_self, List.getElem?_cons_zero] at e
    exact ⟨rfl, (Option.some.inj e).symm⟩
  · right; right
    refine ⟨⟨h, by omega⟩, ?_⟩
    rw [List.getElem?_append_right (by omega), hp, show j - i = (j - i - 1) + 1 by omega, List.getElem?_cons_succ, List.getElem?_drop, show i + (j - i - 1) = j - 1 by omega, List.getElem?_eq_getElem (by omega)] at e
    exact (Option.some.inj e).symm
theorem SrchO.KO (hk : KO l) (h : SrchO l id i false) (hx : x.1 = id) : KO (insO l i x) := by
  obtain ⟨hi, hlo, hhi, hf⟩ := h
  have hne : ∀ j (hj : j < l.length), i ≤ j → cmpID id l[j].1 < 0 := fun j hj hij => by
    have h0 := hhi j hj hij
    have h1 : cmpID l[j].1 id ≠ 0 := fun e => by
      have e2 := (cmpID_zero _ _).1 e
      by_cases h2 : i = j
      · subst h2
        have := hf.2 ⟨hj, e2⟩
        cases this
      · have h3 := hk i j hj (by omega)
        have h4 := hhi i (by omega) (Nat.le_refl _)
        rw [e2] at h3
        omega
    rw [cmpID_back]
    omega
  have hn := insO_len (x := x) hi
  intro a b hb hab
  rcases insO_get (x := x) hi (show a < _ by omega) with ⟨ha, ea⟩ | ⟨ha, ea⟩ | ⟨ha, ea⟩
  · rcases insO_get (x := x) hi hb with ⟨hb2, eb⟩ | ⟨hb2, eb⟩ | ⟨hb2, eb⟩
    · rw [ea, eb]; exact hk a b hb2.2 hab
    · rw [ea, eb, hx]; exact hlo a ha.2 ha.1
    · rw [ea, eb]; exact hk a (b - 1) hb2.2 (by omega)
  · rcases insO_get (x := x) hi hb with ⟨hb2, eb⟩ | ⟨hb2, eb⟩ | ⟨hb2, eb⟩
    · omega
    · omega
    · rw [ea, eb, hx]; exact hne (b - 1) hb2.2 (by omega)
  · rcases insO_get (x := x) hi hb with ⟨hb2, eb⟩ | ⟨hb2, eb⟩ | ⟨hb2, eb⟩
    · omega
    · omega
    · rw [ea, eb]; exact hk (a - 1) (b - 1) hb2.2 (by omega)
theorem insO_mem {y : ID3 × T} : y ∈ insO l i x ↔ y ∈ l ∨ y = x := by
  unfold insO
  conv => rhs; rw [← List.take_append_drop i l]
  simp only [List.mem_append, List.mem_cons]
  constructor
  · rintro (h | h | h)
    · exact .inl (.inl h)
    · exact .inr h
    · exact .inl (.inr h)
  · rintro ((h | h) | h)
    · exact .inl h
    · exact .inr (.inr h)
    · exact .inr (.inl h)
end
theorem elems_dropO {xs es : List Value} {i k : Nat} (hl : xs.length = k * 9) (he : es.length = 9) (hi : i ≤ k) (j : Nat) :
    ((xs.take (i * 9) ++ es ++ xs.drop (i * 9)).drop (j * 9)).take 9 = if j < i then (xs.drop (j * 9)).take 9 else if j = i then es else (xs.drop ((j - 1) * 9)).take 9 := by
  have hp : (xs.take (i * 9)).length = i * 9 := by rw [List.length_take]; omega
  rw [List.append_assoc]
  split
  · next h =>
    rw [List.drop_append_of_le_length (by omega), List.take_append_of_le_length (by rw [List.length_drop]; omega), List.drop_take, List.take_take, show min 9 (i * 9 - j * 9) = 9 by omega]
  · next h =>
    rw [List.drop_append, List.drop_of_length_le (by omega), List.nil_append, hp, List.drop_append]
    split
    · next h2 =>
      subst h2
      rw [Nat.sub_self, List.drop_zero, List.take_append_of_le_length (by omega), List.take_of_length_le (by omega)]
    · next h2 =>
      rw [List.drop_of_length_le (by omega), List.nil_append, List.drop_drop, he, show i * 9 + (j * 9 - i * 9 - 9) = (j - 1) * 9 by omega]

/-- slices.Insert of one object. -/
theorem own_insertO {w : World} {B : Nat} {S : Nat → Prop} {A : Option Addr} {c : Nat} {l : List (ID3 × T)} {i vb ty : Nat} {k : ID3} {r : List Value} {t : T} (h : OwnE eltO w B S A c l) (hi : i ≤ l.length) (hbig : (l.length + 1) * 136 ≤ 140737488355328) (hB : B ≤ w.heap.size)
    (hk : k.ok) (hes : Blk w vb ty (.string k.k :: .string k.s :: .string k.n :: r).toArray) (hne : Value.ownBlock (.slice A l.length c) ≠ some vb) (hr : RepT w (fun b => S b ∧ Value.ownBlock (.slice A l.length c) ≠ some b) (.agg r.toArray) t) :
    Calls Tryd.prog 15 #[.slice A l.length c, .int .i64 i, .slice (some ⟨vb, 0, none⟩) 1 1] w fun e w' =>
      ∃ A' c', e = .returned (.slice A' (insO l i (k, t)).length c') ∧ OwnE eltO w' B S A' c' (insO l i (k, t)) ∧ w.grownBy w' (Value.ownBlock (.slice A l.length c)) := by
  obtain ⟨xs, h1, h2, h3⟩ := h
  obtain ⟨hrl, hr1⟩ := tree_one hr
  have hlen := insO_len (x := (k, t)) hi
  refine (insert_anyO B _ l.length i vb ty xs (.string k.k :: .string k.s :: .string k.n :: r) w hB hi h1 hbig (by simp [hrl]) hes hne h2 (fun u hu => ?_)).mono ?_
  · simp only [List.mem_cons] at hu
    rcases hu with rfl | rfl | rfl | hu
    · rfl
    · rfl
    · rfl
    · exact hr1 u hu
  · rintro e w' ⟨v', rfl, hown, hgr, hat⟩
    have hv' : ∃ A' c', v' = .slice A' (insO l i (k, t)).length c' := by
      rcases hown.2 with ⟨_, h0⟩ | ⟨g, cap, cur, e, _⟩
      · omega
      · exact ⟨_, _, by rw [e, hlen]⟩
    obtain ⟨A', c', rfl⟩ := hv'
    have hmove : ∀ {cs : List Value} {p : ID3 × T}, eltO.R w (fun b => S b ∧ Value.ownBlock (.slice A l.length c) ≠ some b) cs p → eltO.R w' (fun b => S b ∧ Value.ownBlock (.slice A' (insO l i (k, t)).length c') ≠ some b) cs p := fun hR => by
      refine eltO.mono hR (fun b hb hlt => ⟨hb.1, fun e => ?_⟩) (fun b o hb hlt => World.cell?_of_block (a := ⟨b, o, none⟩) (hgr.block b hlt (fun e => hb.2 e.symm)))
      have e' : Value.ownBlock (.slice A' (insO l i (k, t)).length c') = some b := e
      rcases hat with h | h
      · exact hb.2 (h.symm.trans e)
      · rw [h] at e
        simp at e
        omega
    refine ⟨A', c', rfl, ⟨_, by rw [hlen] at hown ⊢; exact hown, fun u hu => ?_, fun j hj => ?_⟩, hgr⟩
    · rcases List.mem_append.1 hu with hu | hu
      · rcases List.mem_append.1 hu with hu | hu
        · exact h2 u (List.mem_of_mem_take hu)
        · simp only [List.mem_cons] at hu
          rcases hu with rfl | rfl | rfl | hu
          · rfl
          · rfl
          · rfl
          · exact hr1 u hu
      · exact h2 u (List.mem_of_mem_drop hu)
    · refine hmove ?_
      show eltO.R _ _ (((xs.take (i * 9) ++ (.string k.k :: .string k.s :: .string k.n :: r) ++ xs.drop (i * 9)).drop (j * 9)).take 9) _
      rw [elems_dropO h1.1 (by simp [hrl]) hi j]
      rcases insO_get (x := (k, t)) hi hj with ⟨h, e⟩ | ⟨h, e⟩ | ⟨h, e⟩
      · rw [if_pos h.1, e]
        exact h3 j h.2
      · rw [if_neg (by omega), if_pos h, e]
        exact ⟨r, rfl, hk, hr⟩
      · rw [if_neg (by omega), if_neg (by omega), e]
        exact h3 (j - 1) h.2
end Go.Proofs.YtdgeegfoocoohaaDoor
