/- A map's row of the call's own: what Insert and a store into it leave. -/
import Derived.Test.YtgbbojnigicnoaaDoorInsB
import Derived.Test.YtgbbojnigicnoaaDoorIns
import Derived.Test.YtgbbojnigicnoaaDoorClone
namespace Go.Proofs.YtgbbojnigicnoaaDoor
open Go.RowKit Go.Lib

def ElemsM (w : World) (B : Nat) (own : Option Nat) (m : List (ByteArray × T)) (xs : List Value) : Prop :=
  ∀ i (hi : i < m.length), ∃ r, (xs.drop (i * 7)).take 7 = .string m[i].1 :: r ∧ m[i].1.size ≤ 140737488351232 ∧ RepT w (fun b => B ≤ b ∧ own ≠ some b) (.agg r.toArray) m[i].2
/-- A row of pairs of the call's own, their values in other memory of the call's own. -/
def OwnM (w : World) (B : Nat) (A : Option Addr) (c : Nat) (m : List (ByteArray × T)) : Prop :=
  ∃ xs, w.ownsRow B 41 7 (.slice A m.length c) m.length xs ∧ (∀ u ∈ xs, u.oneCell' = true) ∧ ElemsM w B (Value.ownBlock (.slice A m.length c)) m xs

theorem OwnM.nil (w : World) (B : Nat) : OwnM w B none 0 [] := ⟨[], ⟨rfl, Or.inl ⟨rfl, rfl⟩⟩, by simp, fun i hi => by simp at hi⟩
theorem OwnM.own {w : World} {B : Nat} {A : Option Addr} {c : Nat} {m : List (ByteArray × T)} (h : OwnM w B A c m) : ∀ g, Value.ownBlock (.slice A m.length c) = some g → B ≤ g ∧ g < w.heap.size := by
  obtain ⟨xs, ⟨_, hc⟩, _⟩ := h
  intro g hg
  rcases hc with ⟨e, _⟩ | ⟨g', cap, cur, e, h1, h2, _⟩
  · rw [e] at hg; cases hg
  · rw [e] at hg
    simp [Value.ownBlock] at hg
    subst hg
    exact ⟨h1, Blk.lt h2⟩
theorem ownsRow_of {w w' : World} {B sz n e : Nat} {v : Value} {xs : List Value} (h : w.ownsRow B e sz v n xs) (hw : ∀ g, v.ownBlock = some g → w'.heap[g]? = w.heap[g]?) : w'.ownsRow B e sz v n xs := by
  obtain ⟨hl, hc⟩ := h
  refine ⟨hl, ?_⟩
  rcases hc with h | ⟨g, cap, cur, rfl, h1, h2, h3⟩
  · exact Or.inl h
  · exact Or.inr ⟨g, cap, cur, rfl, h1, (hw g rfl).trans h2, h3⟩
theorem OwnM.keep {w w' : World} {B : Nat} {A : Option Addr} {c : Nat} {m : List (ByteArray × T)} (h : OwnM w B A c m) (hb : Below w.heap.size w w') : OwnM w' B A c m := by
  have hown := h.own
  obtain ⟨xs, h1, h2, h3⟩ := h
  refine ⟨xs, ownsRow_of h1 (fun g hg => hb.block g (hown g hg).2), h2, fun i hi => ?_⟩
  obtain ⟨r, e, hz, hr⟩ := h3 i hi
  exact ⟨r, e, hz, hr.keep hb⟩
theorem OwnM.len {w : World} {B : Nat} {A : Option Addr} {c : Nat} {m : List (ByteArray × T)} (h : OwnM w B A c m) : m.length ≤ c ∧ c ≤ maxLen := by
  obtain ⟨xs, ⟨_, hc⟩, _⟩ := h
  rcases hc with ⟨e, h0⟩ | ⟨g, cap, cur, e, h1, h2, h3, h4, _⟩
  · simp at e
    rw [e.2.2, h0]
    exact ⟨Nat.le_refl _, by unfold maxLen; omega⟩
  · simp at e
    rw [e.2]
    exact ⟨h3, h4⟩
theorem OwnM.cells {w : World} {B : Nat} {A : Option Addr} {c : Nat} {m : List (ByteArray × T)} (h : OwnM w B A c m) {i : Nat} (hi : i < m.length) :
    ∃ g cur r, A = some ⟨g, 0, none⟩ ∧ B ≤ g ∧ Blk w g 41 cur ∧ i * 7 + 7 ≤ cur.size ∧ (.string m[i].1 :: r).length = 7 ∧ cellsAt w g (i * 7) (.string m[i].1 :: r) ∧ m[i].1.size ≤ 140737488351232 ∧ RepT w (fun b => B ≤ b ∧ g ≠ b) (.agg r.toArray) m[i].2 := by
  obtain ⟨xs, ⟨hl, hc⟩, _, h3⟩ := h
  obtain ⟨r, e, hz, hr⟩ := h3 i hi
  rcases hc with ⟨e', h0⟩ | ⟨g, cap, cur, e', h1, h2, hn, hm, hs, ht⟩
  · omega
  · simp at e'
    obtain ⟨rfl, rfl⟩ := e'
    have hfit : i * 7 + 7 ≤ cur.size := by
      rw [hs]
      have : (i + 1) * 7 ≤ c * 7 := Nat.mul_le_mul_right _ (by omega)
      omega
    refine ⟨g, cur, r, rfl, h1, h2, hfit, ?_, fun j u hu => ?_, hz, hr.weak (fun b hb _ => ⟨hb.1, fun e => hb.2 (by rw [e]; rfl)⟩)⟩
    · rw [← e, List.length_take, List.length_drop, hl]; omega
    · have hb : Blk w g 41 cur := h2
      rw [hb.cell]
      have hj : j < 7 := by
        have := (List.getElem?_eq_some_iff.1 hu).1
        rw [← e] at this
        simp at this
        omega
      rw [← e, List.getElem?_take_of_lt hj, List.getElem?_drop, ← ht, List.getElem?_take_of_lt (by omega)] at hu
      simpa using hu
theorem OwnM.rep {w : World} {B : Nat} {A : Option Addr} {c : Nat} {m : List (ByteArray × T)} (h : OwnM w B A c m) : RepM w (fun b => B ≤ b) A m := by
  intro i hi
  obtain ⟨g, cur, r, e, h1, h2, _, _, h3, h4, h5⟩ := h.cells hi
  exact ⟨g, 0, r, e, h1, h4, by rw [Nat.zero_add]; exact h3, h5.weak (fun b hb _ => hb.1)⟩

theorem tree_one {w : World} {S : Nat → Prop} {r : List Value} {t : T} (h : RepT w S (.agg r.toArray) t) : r.length = 6 ∧ ∀ u ∈ r, u.oneCell' = true := by
  obtain ⟨la, lc, ma, mc, hv, -⟩ := h.inv
  have := agg_list hv
  subst this
  exact ⟨rfl, by simp [Value.oneCell']⟩

theorem elems_drop {xs es : List Value} {i k : Nat} (hl : xs.length = k * 7) (he : es.length = 7) (hi : i ≤ k) (j : Nat) :
    ((xs.take (i * 7) ++ es ++ xs.drop (i * 7)).drop (j * 7)).take 7 = if j < i then (xs.drop (j * 7)).take 7 else if j = i then es else (xs.drop ((j - 1) * 7)).take 7 := by
  have hp : (xs.take (i * 7)).length = i * 7 := by rw [List.length_take]; omega
  rw [List.append_assoc]
  split
  · next h =>
    rw [List.drop_append_of_le_length (by omega), List.take_append_of_le_length (by rw [List.length_drop]; omega), List.drop_take, List.take_take, show min 7 (i * 7 - j * 7) = 7 by omega]
  · next h =>
    rw [List.drop_append, List.drop_of_length_le (by omega), List.nil_append, hp, List.drop_append]
    split
    · next h2 =>
      subst h2
      rw [Nat.sub_self, List.drop_zero, List.take_append_of_le_length (by omega), List.take_of_length_le (by omega)]
    · next h2 =>
      rw [List.drop_of_length_le (by omega), List.nil_append, List.drop_drop, he, show i * 7 + (j * 7 - i * 7 - 7) = (j - 1) * 7 by omega]

theorem ins_get {m : List (ByteArray × T)} {k : ByteArray} {t : T} {i j : Nat} (hs : Srch m k i false) (hj : j < (ins m k t).length) :
    (∃ h : j < i ∧ j < m.length, (ins m k t)[j] = m[j]'h.2) ∨ (j = i ∧ (ins m k t)[j] = (k, t)) ∨ ∃ h : i < j ∧ j - 1 < m.length, (ins m k t)[j] = m[j - 1]'h.2 := by
  have e := List.getElem?_eq_getElem hj
  generalize (ins m k t)[j] = y at e
  rw [ins_new t hs] at e hj
  have hi := hs.1
  have hp : (m.take i).length = i := by rw [List.length_take]; omega
  rcases Nat.lt_trichotomy j i with h | h | h
  · left
    rw [List.getElem?_append_left (by omega), List.getElem?_take_of_lt h, List.getElem?_eq_getElem (by omega)] at e
    exact ⟨⟨h, by omega⟩, by injection e with e; exact e.symm⟩
  · right; left
    rw [List.getElem?_append_right (by omega), hp, h, Nat.sub_self] at e
    simp at e
    exact ⟨h, e.symm⟩
  · right; right
    rw [List.length_append, hp] at hj
    simp at hj
    rw [List.getElem?_append_right (by omega), hp, show j - i = (j - 1 - i) + 1 by omega, List.getElem?_cons_succ, List.getElem?_drop, show i + (j - 1 - i) = j - 1 by omega, List.getElem?_eq_getElem (by omega)] at e
    exact ⟨⟨h, by omega⟩, by injection e with e; exact e.symm⟩

theorem own_insert {w : World} {B : Nat} {A : Option Addr} {c : Nat} {m : List (ByteArray × T)} {i vb ty : Nat} {k : ByteArray} {r : List Value} {t : T} (h : OwnM w B A c m) (hs : Srch m k i false) (hbig : (m.length + 1) * 104 ≤ 140737488355328) (hB : B ≤ w.heap.size)
    (hk : k.size ≤ 140737488351232) (hes : Blk w vb ty (.string k :: r).toArray) (hne : Value.ownBlock (.slice A m.length c) ≠ some vb) (hr : RepT w (fun b => B ≤ b ∧ Value.ownBlock (.slice A m.length c) ≠ some b) (.agg r.toArray) t) :
    Calls Tryd.prog 32 #[.slice A m.length c, .int .i64 i, .slice (some ⟨vb, 0, none⟩) 1 1] w fun e w' =>
      ∃ A' c', e = .returned (.slice A' (ins m k t).length c') ∧ OwnM w' B A' c' (ins m k t) ∧ w.grownBy w' (Value.ownBlock (.slice A m.length c)) := by
  obtain ⟨xs, h1, h2, h3⟩ := h
  obtain ⟨hrl, hr1⟩ := tree_one hr
  have hlen : (ins m k t).length = m.length + 1 := by
    have := hs.1
    rw [ins_new t hs]; simp; omega
  refine (insert_any B _ m.length i vb ty xs (.string k :: r) w hB hs.1 h1 hbig (by simp [hrl]) hes hne h2 (fun u hu => ?_)).mono ?_
  · rcases List.mem_cons.1 hu with rfl | hu
    · rfl
    · exact hr1 u hu
  · rintro e w' ⟨v', rfl, hown, hgr, hat⟩
    have hv' : ∃ A' c', v' = .slice A' (ins m k t).length c' := by
      rcases hown.2 with ⟨_, h0⟩ | ⟨g, cap, cur, e, _⟩
      · omega
      · exact ⟨_, _, by rw [e, hlen]⟩
    obtain ⟨A', c', rfl⟩ := hv'
    refine ⟨A', c', rfl, ⟨_, by rw [hlen] at hown ⊢; exact hown, fun u hu => ?_, fun j hj => ?_⟩, hgr⟩
    · rcases List.mem_append.1 hu with hu | hu
      · rcases List.mem_append.1 hu with hu | hu
        · exact h2 u (List.mem_of_mem_take hu)
        · rcases List.mem_cons.1 hu with rfl | hu
          · rfl
          · exact hr1 u hu
      · exact h2 u (List.mem_of_mem_drop hu)
    · have hmove : ∀ {v : Value} {t' : T}, RepT w (fun b => B ≤ b ∧ Value.ownBlock (.slice A m.length c) ≠ some b) v t' → RepT w' (fun b => B ≤ b ∧ Value.ownBlock (.slice A' (ins m k t).length c') ≠ some b) v t' := fun hR => by
        refine hR.mono (fun b hb hlt => ⟨hb.1, fun e => ?_⟩) (fun b o hb hlt => World.cell?_of_block (a := ⟨b, o, none⟩) (hgr.block b hlt (fun e => hb.2 e.symm)))
        have e' : Value.ownBlock (.slice A' (ins m k t).length c') = some b := e
        rcases hat with h | h
        · exact hb.2 (h.symm.trans e)
        · rw [h] at e
          simp at e
          omega
      have hi := hs.1
      rw [elems_drop h1.1 (by simp [hrl]) hs.1 j]
      rcases ins_get hs hj with ⟨h, e⟩ | ⟨h, e⟩ | ⟨h, e⟩
      · rw [if_pos h.1, e]
        obtain ⟨r', e1, e2, e3⟩ := h3 j h.2
        exact ⟨r', e1, e2, hmove e3⟩
      · rw [if_neg (by omega), if_pos h, e]
        exact ⟨r, rfl, hk, hmove hr⟩
      · rw [if_neg (by omega), if_neg (by omega), e]
        obtain ⟨r', e1, e2, e3⟩ := h3 (j - 1) h.2
        exact ⟨r', e1, e2, hmove e3⟩

/-- Element i's value written anew. -/
theorem own_set {w : World} {B g i c : Nat} {m : List (ByteArray × T)} {k : ByteArray} {t : T} {c0 c1 c2 c3 c4 c5 : Value} (h : OwnM w B (some ⟨g, 0, none⟩) c m) (hs : Srch m k i true)
    (hr : RepT w (fun b => B ≤ b ∧ g ≠ b) (.agg #[c0, c1, c2, c3, c4, c5]) t) : OwnM (set6 w g (i * 7 + 1) c0 c1 c2 c3 c4 c5) B (some ⟨g, 0, none⟩) c (ins m k t) := by
  obtain ⟨hi, hik⟩ := hs.2.2.2.1 rfl
  rw [ins_found t hs]
  obtain ⟨xs, h1, h2, h3⟩ := h
  obtain ⟨hl, hc⟩ := h1
  rcases hc with ⟨e', h0⟩ | ⟨g', cap, cur, e', hB, hb, hn, hm, hsz, ht⟩
  · omega
  simp at e'
  obtain ⟨rfl, rfl⟩ := e'
  have hb' : Blk w g 41 cur := hb
  have hfit : i * 7 + 7 ≤ cur.size := by
    rw [hsz]
    have : (i + 1) * 7 ≤ c * 7 := Nat.mul_le_mul_right _ (by omega)
    omega
  obtain ⟨cur', q1, q2, q3, q4⟩ := Blk.store6 (o := i * 7 + 1) c0 c1 c2 c3 c4 c5 hb' (by omega)
  obtain ⟨hrl, hr1⟩ := tree_one (r := [c0, c1, c2, c3, c4, c5]) hr
  obtain ⟨r0, e0, hz0, -⟩ := h3 i hi
  have hmove : ∀ {v : Value} {t' : T}, RepT w (fun b => B ≤ b ∧ g ≠ b) v t' → RepT (set6 w g (i * 7 + 1) c0 c1 c2 c3 c4 c5) (fun b => B ≤ b ∧ g ≠ b) v t' := fun hR =>
    hR.mono (fun b hb _ => hb) (fun b o hb hlt => World.cell?_of_block (a := ⟨b, o, none⟩) (set6_heap (fun e => hb.2 e.symm)))
  have hcell : ∀ p, p < m.length → ∀ j, j < 7 → (xs[p * 7 + j]? = cur[p * 7 + j]?) := fun p hp j hj => by
    rw [← ht, List.getElem?_take_of_lt (by omega), Array.getElem?_toList]
  have hx7 : ∀ p, p < m.length → ∀ j, j < 7 → (cur'.toList.take (m.length * 7))[p * 7 + j]? = cur'[p * 7 + j]? := fun p hp j hj => by
    rw [List.getElem?_take_of_lt (by omega), Array.getElem?_toList]
  have hnew : ((cur'.toList.take (m.length * 7)).drop (i * 7)).take 7 = .string k :: [c0, c1, c2, c3, c4, c5] := by
    refine List.ext_getElem? fun j => ?_
    rcases Nat.lt_or_ge j 7 with hj | hj
    · rw [List.getElem?_take_of_lt hj, List.getElem?_drop, hx7 i hi j hj]
      match j, hj with
      | 0, _ =>
        rw [q4 _ (by omega), ← hcell i hi 0 (by omega), Nat.add_zero]
        have := congrArg (fun l => l[0]?) e0
        simp only [List.getElem?_take_of_lt (show 0 < 7 by omega), List.getElem?_drop, Nat.add_zero] at this
        rw [this, hik]
        rfl
      | j + 1, hj =>
        rw [show i * 7 + (j + 1) = i * 7 + 1 + j by omega, q3 j (by omega)]
        rfl
    · rw [List.getElem?_eq_none (by rw [List.length_take]; omega), List.getElem?_eq_none (by simpa using hj)]
  have hold : ∀ p, p < m.length → p ≠ i → ((cur'.toList.take (m.length * 7)).drop (p * 7)).take 7 = (xs.drop (p * 7)).take 7 := fun p hp hpi => by
    refine List.ext_getElem? fun j => ?_
    rcases Nat.lt_or_ge j 7 with hj | hj
    · rw [List.getElem?_take_of_lt hj, List.getElem?_drop, hx7 p hp j hj, List.getElem?_take_of_lt hj, List.getElem?_drop, hcell p hp j hj]
      exact q4 _ (by omega)
    · rw [List.getElem?_eq_none (by rw [List.length_take]; omega), List.getElem?_eq_none (by rw [List.length_take]; omega)]
  have hlen : (m.set i (k, t)).length = m.length := by simp
  have hcz : cur'.size = c * 7 := q2.trans hsz
  refine ⟨cur'.toList.take (m.length * 7), ⟨?_, Or.inr ⟨g, c, cur', by rw [hlen], hB, q1, by rw [hlen]; exact hn, hm, hcz, by rw [hlen]⟩⟩, fun u hu => ?_, fun p hp => ?_⟩
  · have h7 : cur'.toList.length = c * 7 := by simpa using hcz
    rw [hlen, List.length_take, h7]
    have : m.length * 7 ≤ c * 7 := Nat.mul_le_mul_right _ hn
    omega
  · obtain ⟨q, hq, hqu⟩ := List.getElem_of_mem hu
    have hq' : q < m.length * 7 := by rw [List.length_take] at hq; omega
    have hqs : (cur'.toList.take (m.length * 7))[q]? = some u := by rw [List.getElem?_eq_getElem hq, hqu]
    rw [List.getElem?_take_of_lt hq', Array.getElem?_toList] at hqs
    rcases Nat.lt_or_ge q (i * 7 + 1) with hlt | hge
    · rw [q4 q (by omega)] at hqs
      refine h2 u (List.mem_iff_getElem?.2 ⟨q, ?_⟩)
      rw [← ht, List.getElem?_take_of_lt hq', Array.getElem?_toList]
      exact hqs
    · rcases Nat.lt_or_ge q (i * 7 + 7) with hlt2 | hge2
      · have := q3 (q - (i * 7 + 1)) (by omega)
        rw [show i * 7 + 1 + (q - (i * 7 + 1)) = q by omega, hqs] at this
        exact hr1 u (List.mem_iff_getElem?.2 ⟨_, this.symm⟩)
      · rw [q4 q (by omega)] at hqs
        refine h2 u (List.mem_iff_getElem?.2 ⟨q, ?_⟩)
        rw [← ht, List.getElem?_take_of_lt hq', Array.getElem?_toList]
        exact hqs
  · rw [hlen] at hp
    by_cases hpi : p = i
    · subst hpi
      simp only [List.getElem_set_self]
      exact ⟨_, hnew, by rw [← hik]; exact hz0, (hmove hr).weak (fun b hb _ => ⟨hb.1, fun e => hb.2 (by simpa [Value.ownBlock] using e)⟩)⟩
    · rw [List.getElem_set_ne (Ne.symm hpi)]
      obtain ⟨r', e1, e2, e3⟩ := h3 p hp
      refine ⟨r', (hold p hp hpi).trans e1, e2, ?_⟩
      have e3' := e3.weak (S' := fun b => B ≤ b ∧ g ≠ b) (fun b hb _ => ⟨hb.1, fun e => hb.2 (by rw [e]; rfl)⟩)
      exact (hmove e3').weak (fun b hb _ => ⟨hb.1, fun e => hb.2 (by simpa [Value.ownBlock] using e)⟩)

end Go.Proofs.YtgbbojnigicnoaaDoor
