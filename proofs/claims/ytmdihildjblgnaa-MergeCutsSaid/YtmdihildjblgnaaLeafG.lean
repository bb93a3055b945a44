/- Leaves by their paths: what pruning and dropping at one leaves of the others. -/
import Derived.Test.YtmdihildjblgnaaLeafB
import Derived.Test.YtmdihildjblgnaaRefPaths
namespace Go.Proofs.Ytmdihildjblgnaa

theorem getT_map {v y : T} {s : ByteArray} (h : getT v s = some y) : v.map ≠ [] := fun e => by
  unfold getT at h
  split at h
  · rw [e] at h; cases h
  · cases h
/-- What is a leaf: what stands at its path, and has no map. -/
theorem mem_leaves {n : Nat} {v : T} (hv : Neat n v) : ∀ (l : List ByteArray) (x : T), (l, x) ∈ v.leaves ↔ getP l v = some x ∧ x.map = [] := by
  induction v using T.ind' with
  | h v ihl ihm =>
    intro l x
    rw [leaves_eq]
    split
    · next hm =>
      rw [List.mem_singleton]
      cases l with
      | nil =>
        rw [getP]
        constructor
        · intro h; injection h with _ h; subst h; exact ⟨rfl, hm⟩
        · rintro ⟨h, -⟩; injection h with h; rw [h]
      | cons s r =>
        constructor
        · intro h; injection h with h; cases h
        · rintro ⟨h, -⟩
          rw [getP] at h
          cases e : getT v s with
          | none => rw [e] at h; cases h
          | some y => exact absurd hm (getT_map e)
    · next hm =>
      have key : ∀ {m : List (ByteArray × T)}, KS m → (∀ p ∈ m, ∀ (l : List ByteArray) (x : T), (l, x) ∈ p.2.leaves ↔ getP l p.2 = some x ∧ x.map = []) → ((l, x) ∈ T.leavesM m ↔ ∃ s r y, l = s :: r ∧ look m s = some y ∧ getP r y = some x ∧ x.map = []) := by
        intro m
        induction m with
        | nil => intro _ _; simp [T.leavesM, look]
        | cons p q ih =>
          intro hks hp
          rw [T.leavesM, leavesP_eq, List.mem_append, ih hks.tail fun p h => hp p (by simp [h])]
          constructor
          · rintro (h | ⟨s, r, y, e, h1, h2, h3⟩)
            · obtain ⟨⟨r, x'⟩, h0, e⟩ := List.mem_map.1 h
              injection e with e1 e2
              subst e2
              obtain ⟨h1, h2⟩ := (hp p (by simp) r x').1 h0
              exact ⟨p.1, r, p.2, e1.symm, by rw [look, if_pos rfl], h1, h2⟩
            · refine ⟨s, r, y, e, ?_, h2, h3⟩
              rw [look, if_neg]
              · exact h1
              · intro e2
                exact klt_ne (hks.head _ (look_mem h1)) e2
          · rintro ⟨s, r, y, e, h1, h2, h3⟩
            rw [look] at h1
            split at h1
            · next e2 =>
              injection h1 with h1
              subst h1 e2
              exact .inl (List.mem_map.2 ⟨(r, x), (hp p (by simp) r x).2 ⟨h2, h3⟩, by rw [e]⟩)
            · exact .inr ⟨s, r, y, e, h1, h2, h3⟩
      rw [key hv.KS fun p hp l x => ihm p hp (hv.mem p hp) l x]
      constructor
      · rintro ⟨s, r, y, rfl, h1, h2, h3⟩
        refine ⟨?_, h3⟩
        rw [getP, getT_look hv, h1]; exact h2
      · rintro ⟨h1, h2⟩
        cases l with
        | nil => rw [getP] at h1; injection h1 with h1; subst h1; exact absurd h2 hm
        | cons s r =>
          rw [getP, getT_look hv] at h1
          cases e : look v.map s with
          | none => rw [e] at h1; cases h1
          | some y => rw [e] at h1; exact ⟨s, r, y, rfl, e, h1, h2⟩

theorem getP_cons {v y : T} {s : ByteArray} (h : getT v s = some y) (r : List ByteArray) : getP (s :: r) v = getP r y := by rw [getP, h]; rfl
theorem getP_some {v x : T} {s : ByteArray} {r : List ByteArray} (h : getP (s :: r) v = some x) : ∃ y, getT v s = some y ∧ getP r y = some x := by
  rw [getP] at h
  cases e : getT v s with
  | none => rw [e] at h; cases h
  | some y => rw [e] at h; exact ⟨y, rfl, h⟩
theorem getP_nomap {v x : T} {r : List ByteArray} (hm : v.map = []) (h : getP r v = some x) : r = [] ∧ x = v := by
  cases r with
  | nil => injection h with h; exact ⟨rfl, h.symm⟩
  | cons s r => obtain ⟨y, hy, -⟩ := getP_some h; exact absurd hm (getT_map hy)
theorem getP_drop_ne {n : Nat} {v : T} (hv : Neat n v) {s t : ByteArray} (h : t ≠ s) (r : List ByteArray) : getP (t :: r) (dropT v s) = getP (t :: r) v := by
  rw [getP, getP, getT_drop hv, if_neg (fun e => h e.symm)]
theorem getP_put_ne {n : Nat} {v : T} (hv : Neat n v) {s t : ByteArray} (h : t ≠ s) (x : T) (r : List ByteArray) : getP (t :: r) (putT v s x) = getP (t :: r) v := by
  rw [getP, getP, getT_put hv, if_neg (fun e => h e.symm)]
theorem getP_put_eq {n : Nat} {v : T} (hv : Neat n v) (s : ByteArray) (x : T) (r : List ByteArray) : getP (s :: r) (putT v s x) = getP r x := by
  rw [getP, getT_put hv, if_pos rfl]; rfl
theorem getP_drop_eq {n : Nat} {v : T} (hv : Neat n v) (s : ByteArray) (r : List ByteArray) : getP (s :: r) (dropT v s) = none := by
  rw [getP, getT_drop hv, if_pos rfl]; rfl

/-- Pruned at a leaf: the other leaves are there. -/
theorem prune_other {n : Nat} : ∀ {l m : List ByteArray} {v x z : T}, Neat n v → getP l v = some x → x.map = [] → getP m v = some z → z.map = [] → m ≠ l → getP m (pruneP l v) = some z
  | [], m, v, x, z, hv, hx, hxm, hz, hzm, hne => by
    injection hx with hx; subst hx
    exact absurd (getP_nomap hxm hz).1 hne
  | [s], m, v, x, z, hv, hx, hxm, hz, hzm, hne => by
    obtain ⟨y, hy, hy2⟩ := getP_some hx
    injection hy2 with hy2; subst hy2
    rw [pruneP, if_neg (by rw [hx]; simp)]
    cases m with
    | nil => injection hz with hz; subst hz; exact absurd hzm (getT_map hy)
    | cons t m =>
      by_cases h : t = s
      · subst h
        rw [getP_cons hy] at hz
        obtain ⟨rfl, -⟩ := getP_nomap hxm hz
        exact absurd rfl hne
      · rw [getP_drop_ne hv h]; exact hz
  | s :: u :: r, m, v, x, z, hv, hx, hxm, hz, hzm, hne => by
    obtain ⟨y, hy, hy2⟩ := getP_some hx
    rw [pruneP_step s u r v (by rw [hx]; simp), hy, Option.getD_some]
    have hyn := hv.got hy
    cases m with
    | nil => injection hz with hz; subst hz; exact absurd hzm (getT_map hy)
    | cons t m =>
      by_cases h : t = s
      · subst h
        rw [getP_cons hy] at hz
        have ih := prune_other hyn hy2 hxm hz hzm (fun e => hne (by rw [e]))
        split
        · next hp =>
          obtain ⟨rfl, e2⟩ := getP_nomap hp ih
          injection hz with hz
          subst hz
          obtain ⟨y2, hy3, -⟩ := getP_some hy2
          exact absurd hzm (getT_map hy3)
        · rw [getP_put_eq hv]; exact ih
      · split
        · rw [getP_drop_ne hv h]; exact hz
        · rw [getP_put_ne hv h]; exact hz
/-- Pruned at a leaf: it is gone. -/
theorem prune_gone {n : Nat} : ∀ {l : List ByteArray} {v x : T}, Neat n v → l ≠ [] → getP l v = some x → getP l (pruneP l v) = none
  | [], v, x, hv, hl, hx => absurd rfl hl
  | [s], v, x, hv, hl, hx => by rw [pruneP, if_neg (by rw [hx]; simp)]; exact getP_drop_eq hv s []
  | s :: u :: r, v, x, hv, hl, hx => by
    obtain ⟨y, hy, hy2⟩ := getP_some hx
    rw [pruneP_step s u r v (by rw [hx]; simp), hy, Option.getD_some]
    split
    · exact getP_drop_eq hv s _
    · rw [getP_put_eq hv]; exact prune_gone (hv.got hy) (by simp) hy2
/-- Pruned at a leaf, and not empty: its leaves were there. -/
theorem prune_back {n : Nat} : ∀ {l m : List ByteArray} {v x z : T}, Neat n v → l ≠ [] → getP l v = some x → (pruneP l v).map ≠ [] → getP m (pruneP l v) = some z → z.map = [] → getP m v = some z ∧ m ≠ l
  | [], m, v, x, z, hv, hl, hx, hp, hz, hzm => absurd rfl hl
  | [s], m, v, x, z, hv, hl, hx, hp, hz, hzm => by
    rw [pruneP, if_neg (by rw [hx]; simp)] at hp hz
    cases m with
    | nil => injection hz with hz; subst hz; exact absurd hzm hp
    | cons t m =>
      by_cases h : t = s
      · subst h; rw [getP_drop_eq hv] at hz; cases hz
      · rw [getP_drop_ne hv h] at hz
        exact ⟨hz, fun e => h (by injection e)⟩
  | s :: u :: r, m, v, x, z, hv, hl, hx, hp, hz, hzm => by
    obtain ⟨y, hy, hy2⟩ := getP_some hx
    rw [pruneP_step s u r v (by rw [hx]; simp), hy, Option.getD_some] at hp hz
    split at hz
    · next h0 =>
      rw [if_pos h0] at hp
      cases m with
      | nil => injection hz with hz; subst hz; exact absurd hzm hp
      | cons t m =>
        by_cases h : t = s
        · subst h; rw [getP_drop_eq hv] at hz; cases hz
        · rw [getP_drop_ne hv h] at hz
          exact ⟨hz, fun e => h (by injection e)⟩
    · next h0 =>
      cases m with
      | nil => rw [if_neg h0] at hp; injection hz with hz; subst hz; exact absurd hzm hp
      | cons t m =>
        by_cases h : t = s
        · subst h
          rw [getP_put_eq hv] at hz
          obtain ⟨a, b⟩ := prune_back (hv.got hy) (by simp) hy2 h0 hz hzm
          exact ⟨by rw [getP_cons hy]; exact a, fun e => b (by injection e)⟩
        · rw [getP_put_ne hv h] at hz
          exact ⟨hz, fun e => h (by injection e)⟩
theorem dropT_kind (v : T) (s : ByteArray) : (dropT v s).kind = v.kind := rfl
theorem prune_kind {v : T} (h5 : v.kind = 5) : ∀ {l : List ByteArray}, l ≠ [] → (pruneP l v).kind = 5
  | [], h => absurd rfl h
  | [s], _ => by rw [pruneP]; split; exact h5; rw [dropT_kind]; exact h5
  | s :: u :: r, _ => by
    rw [pruneP]
    · split
      · exact h5
      · split
        · rw [dropT_kind]; exact h5
        · rfl
    · simp
/-- Dropped: a leaf is a map that is empty now, or was there. -/
theorem drop_back {n : Nat} : ∀ {l m : List ByteArray} {v z : T}, Neat n v → l ≠ [] → v.kind = 5 → getP m (dropP l v) = some z → z.map = [] → z.kind = 5 ∨ (getP m v = some z ∧ m ≠ l)
  | [], m, v, z, hv, hl, h5, hz, hzm => absurd rfl hl
  | [s], m, v, z, hv, hl, h5, hz, hzm => by
    rw [dropP] at hz
    cases m with
    | nil => injection hz with hz; subst hz; exact .inl h5
    | cons t m =>
      by_cases h : t = s
      · subst h; rw [getP_drop_eq hv] at hz; cases hz
      · rw [getP_drop_ne hv h] at hz
        exact .inr ⟨hz, fun e => h (by injection e)⟩
  | s :: u :: r, m, v, z, hv, hl, h5, hz, hzm => by
    cases e : getT v s with
    | none =>
      rw [(dropP_step s u r v).1 (by rw [e]; rfl)] at hz
      refine .inr ⟨hz, fun e2 => ?_⟩
      subst e2
      obtain ⟨y, hy, -⟩ := getP_some hz
      rw [e] at hy; cases hy
    | some y =>
      rw [(dropP_step s u r v).2 (by rw [e]; rfl), e, Option.getD_some] at hz
      cases m with
      | nil => injection hz with hz; subst hz; exact .inl rfl
      | cons t m =>
        by_cases h : t = s
        · subst h
          rw [getP_put_eq hv] at hz
          by_cases hy5 : y.kind = 5
          · rcases drop_back (hv.got e) (by simp) hy5 hz hzm with a | ⟨a, b⟩
            · exact .inl a
            · exact .inr ⟨by rw [getP_cons e]; exact a, fun e => b (by injection e)⟩
          · have hny : dropP (u :: r) y = y := by
              have hg : getT y u = none := by unfold getT; rw [if_neg hy5]
              cases r with
              | nil => exact dropT_none (hv.got e) hg
              | cons w r => exact (dropP_step u w r y).1 (by rw [hg]; rfl)
            rw [hny] at hz
            refine .inr ⟨by rw [getP_cons e]; exact hz, fun e2 => ?_⟩
            injection e2 with _ e2
            subst e2
            obtain ⟨y2, hy2, -⟩ := getP_some hz
            exact hy5 (getT_kind hy2)
        · rw [getP_put_ne hv h] at hz
          exact .inr ⟨hz, fun e => h (by injection e)⟩
theorem drop_kind {v : T} (h5 : v.kind = 5) : ∀ {l : List ByteArray}, l ≠ [] → (dropP l v).kind = 5
  | [], h => absurd rfl h
  | [s], _ => h5
  | s :: u :: r, _ => by
    cases e : getT v s with
    | none => rw [(dropP_step s u r v).1 (by rw [e]; rfl)]; exact h5
    | some y => rw [(dropP_step s u r v).2 (by rw [e]; rfl)]; rfl
end Go.Proofs.Ytmdihildjblgnaa
