/- Several texts as one. -/
import Derived.Test.YthkkmnmejciomaaNeat
/- Layers as plain functions of trees: what is left without nothing, one laid over another one, what must be laid. -/
namespace Go.Proofs.Ythkkmnmejciomaa

mutual
def T.strip : T → T
  | .mk k b n s l m => if k = 5 then mkMap (T.stripM m) else .mk k b n s l m
def T.stripM : List (ByteArray × T) → List (ByteArray × T)
  | [] => []
  | p :: r => T.stripP p ++ T.stripM r
def T.stripP : (ByteArray × T) → List (ByteArray × T)
  | (k, x) => if x.kind = 0 then [] else [(k, x.strip)]
end
mutual
/-- b laid over a (b first). -/
def T.over : T → T → T
  | .mk k b n s l m, a => if a.kind = 5 ∧ k = 5 then T.overM m a else T.strip (.mk k b n s l m)
def T.overM : List (ByteArray × T) → T → T
  | [], a => a
  | p :: r, a => T.overM r (T.overP p a)
def T.overP : (ByteArray × T) → T → T
  | (k, x), a => if x.kind = 0 then dropT a k else putT a k (x.over ((getT a k).getD T.zero))
end
/-- What only the first has is nothing. -/
def diff0 : List (ByteArray × T) → T → T → T
  | [], _, out => out
  | p :: r, b, out => diff0 r b (if getT b p.1 = none then putT out p.1 T.zero else out)
mutual
/-- What must be laid over a so that it is b (b first). -/
def T.diff : T → T → T
  | .mk k b n s l m, a => T.diffM m a (diff0 a.map (.mk k b n s l m) (mkMap []))
def T.diffM : List (ByteArray × T) → T → T → T
  | [], _, out => out
  | p :: r, a, out => T.diffM r a (T.diffP p a out)
def T.diffP : (ByteArray × T) → T → T → T
  | (k, x), a, out => match getT a k with
    | none => putT out k x
    | some was => if T.cmp was x = 0 then out else if was.kind = 5 ∧ x.kind = 5 then putT out k (x.diff was) else putT out k x
end

theorem strip_eq (t : T) : t.strip = if t.kind = 5 then mkMap (T.stripM t.map) else t := by cases t; rw [T.strip]; rfl
theorem over_eq (t a : T) : t.over a = if a.kind = 5 ∧ t.kind = 5 then T.overM t.map a else t.strip := by cases t; rw [T.over]; rfl
theorem diff_eq (t a : T) : t.diff a = T.diffM t.map a (diff0 a.map t (mkMap [])) := by cases t; rw [T.diff]; rfl
theorem stripP_eq (p : ByteArray × T) : T.stripP p = if p.2.kind = 0 then [] else [(p.1, p.2.strip)] := by cases p; rw [T.stripP]
theorem overP_eq (p : ByteArray × T) (a : T) : T.overP p a = if p.2.kind = 0 then dropT a p.1 else putT a p.1 (p.2.over ((getT a p.1).getD T.zero)) := by cases p; rw [T.overP]
theorem stripM_eq (m : List (ByteArray × T)) : T.stripM m = (m.filter fun p => decide (p.2.kind ≠ 0)).map fun p => (p.1, p.2.strip) := by
  induction m with
  | nil => rfl
  | cons p r ih =>
    rw [T.stripM, stripP_eq, ih, List.filter_cons]
    by_cases h : p.2.kind = 0
    · rw [if_pos h, if_neg (by simp [h])]; rfl
    · rw [if_neg h, if_pos (by simp [h])]; rfl
theorem stripM_mem {m : List (ByteArray × T)} {p : ByteArray × T} (h : p ∈ T.stripM m) : ∃ q ∈ m, q.2.kind ≠ 0 ∧ p = (q.1, q.2.strip) := by
  rw [stripM_eq] at h
  obtain ⟨q, hq, rfl⟩ := List.mem_map.1 h
  obtain ⟨h1, h2⟩ := List.mem_filter.1 hq
  exact ⟨q, h1, by simpa using h2, rfl⟩
theorem stripM_KS {m : List (ByteArray × T)} (h : KS m) : KS (T.stripM m) := by
  induction m with
  | nil => exact KS.nil
  | cons p r ih =>
    rw [T.stripM, stripP_eq]
    split
    · exact ih h.tail
    · exact KS_cons (ih h.tail) fun q hq => by
        obtain ⟨z, hz, _, rfl⟩ := stripM_mem hq
        exact h.head z hz
theorem stripM_len (m : List (ByteArray × T)) : (T.stripM m).length ≤ m.length := by rw [stripM_eq, List.length_map]; exact List.length_filter_le _ _
theorem look_stripM {m : List (ByteArray × T)} (h : KS m) (k : ByteArray) : look (T.stripM m) k = (look m k).bind fun x => if x.kind = 0 then none else some x.strip := by
  induction m with
  | nil => rfl
  | cons p r ih =>
    rw [T.stripM, stripP_eq]
    by_cases h0 : p.2.kind = 0
    · rw [if_pos h0, List.nil_append, ih h.tail, look]
      by_cases he : p.1 = k
      · rw [if_pos he, look_not fun q hq e => klt_ne (h.head q hq) (he.trans e.symm)]
        simp [h0]
      · rw [if_neg he]
    · rw [if_neg h0, List.singleton_append, look, look]
      by_cases he : p.1 = k
      · rw [if_pos he, if_pos he]; simp [h0]
      · rw [if_neg he, if_neg he, ih h.tail]
theorem strip_kind (t : T) : t.strip.kind = t.kind := by
  rw [strip_eq]; split
  · next h => exact h.symm
  · rfl
theorem strip_neat {n : Nat} {t : T} (h : Neat n t) : Neat n t.strip := by
  induction t using T.ind' with
  | h t ihl ihm =>
    rw [strip_eq]
    split
    · refine Neat.mkMap (stripM_KS h.KS) (Nat.le_trans (stripM_len _) h.len) fun p hp => ?_
      obtain ⟨q, hq, _, rfl⟩ := stripM_mem hp
      exact ⟨h.key q hq, ihm q hq (h.mem q hq)⟩
    · exact h
/-- Nothing is nothing in its maps. -/
def PlainT (t : T) : Prop := t.strip = t
theorem strip_strip {n : Nat} {t : T} (h : Neat n t) : t.strip.strip = t.strip := by
  induction t using T.ind' with
  | h t ihl ihm =>
    by_cases h5 : t.kind = 5
    · rw [strip_eq t, if_pos h5, strip_eq, if_pos (show (mkMap (T.stripM t.map)).kind = 5 from rfl)]
      congr 1
      refine KS_ext (stripM_KS (stripM_KS h.KS)) (stripM_KS h.KS) fun k => ?_
      rw [show (mkMap (T.stripM t.map)).map = T.stripM t.map from rfl, look_stripM (stripM_KS h.KS), look_stripM h.KS]
      cases e : look t.map k with
      | none => rfl
      | some x =>
        by_cases h0 : x.kind = 0
        · simp [h0]
        · simp only [Option.bind_some, if_neg h0, strip_kind]
          rw [ihm _ (look_mem e) (h.look e)]
    · rw [strip_eq t, if_neg h5, strip_eq, if_neg h5]
theorem plain_of {t : T} (h5 : t.kind ≠ 5) : PlainT t := by unfold PlainT; rw [strip_eq, if_neg h5]
theorem plain_sub {n : Nat} {t : T} (hn : Neat n t) (h5 : t.kind = 5) (h : PlainT t) {k : ByteArray} {x : T} (hx : look t.map k = some x) : x.kind ≠ 0 ∧ PlainT x := by
  have h1 : look t.strip.map k = some x := by rw [h]; exact hx
  rw [strip_eq, if_pos h5, show (mkMap (T.stripM t.map)).map = T.stripM t.map from rfl, look_stripM hn.KS, hx] at h1
  simp only [Option.bind_some] at h1
  split at h1
  · cases h1
  · next h0 => injection h1 with h1; exact ⟨h0, h1⟩

/-- What stands under a key behind a layer. -/
def ovl (o : Option T) : Option T → Option T
  | none => o
  | some x => if x.kind = 0 then none else some (x.over (o.getD T.zero))
theorem overM_look {m : List (ByteArray × T)} : ∀ {l : List (ByteArray × T)}, KS l → KS m → ∃ l', T.overM m (mkMap l) = mkMap l' ∧ KS l' ∧ l'.length ≤ l.length + m.length ∧ ∀ k, look l' k = ovl (look l k) (look m k) := by
  induction m with
  | nil => intro l hl _; exact ⟨l, rfl, hl, by simp, fun k => rfl⟩
  | cons p r ih =>
    intro l hl hm
    rw [T.overM, overP_eq]
    have fin : ∀ l1, KS l1 → l1.length ≤ l.length + 1 → (look l1 p.1 = ovl (look l p.1) (some p.2)) → (∀ k, p.1 ≠ k → look l1 k = look l k) → ∃ l', T.overM r (mkMap l1) = mkMap l' ∧ KS l' ∧ l'.length ≤ l.length + (p :: r).length ∧ ∀ k, look l' k = ovl (look l k) (look (p :: r) k) := by
      intro l1 h1 hlen h2 h3
      obtain ⟨l', e, hks, hle, hlk⟩ := ih h1 hm.tail
      refine ⟨l', e, hks, by rw [List.length_cons]; omega, fun k => ?_⟩
      rw [hlk, look]
      by_cases he : p.1 = k
      · rw [if_pos he, look_not fun q hq e => klt_ne (hm.head q hq) (he.trans e.symm), ← he, ← h2]; rfl
      · rw [if_neg he, h3 k he]
    by_cases h0 : p.2.kind = 0
    · rw [if_pos h0, dropT_mk]
      exact fin _ (del_KS hl _) (Nat.le_trans (del_len _ _) (by omega)) (by rw [look_del, if_pos rfl, ovl, if_pos h0]) fun k hk => by rw [look_del, if_neg hk]
    · rw [if_neg h0, putT_mk hl, getT_mk]
      have hi := ins_length l p.1 (p.2.over ((look l p.1).getD T.zero))
      exact fin _ (ins_KS hl _ _) (by omega) (by rw [look_ins _ _ _ hl, if_pos rfl, ovl, if_neg h0]) fun k hk => by rw [look_ins _ _ _ hl, if_neg hk]
theorem over_look {n k : Nat} {a b : T} (ha : Neat n a) (hb : Neat k b) (h5 : a.kind = 5) (h6 : b.kind = 5) : ∃ l', b.over a = mkMap l' ∧ KS l' ∧ l'.length ≤ a.map.length + b.map.length ∧ ∀ k, look l' k = ovl (look a.map k) (look b.map k) := by
  rw [over_eq, if_pos ⟨h5, h6⟩]
  have := overM_look (m := b.map) ha.KS hb.KS
  rw [← ha.map h5] at this
  exact this
theorem over_strip {a b : T} (h : ¬ (a.kind = 5 ∧ b.kind = 5)) : b.over a = b.strip := by rw [over_eq, if_neg h]
theorem ovl_neat {n k : Nat} {o : Option T} {x y : T} (ho : ∀ z, o = some z → Neat n z) (hov : ∀ z, Neat n z → Neat (n + k) (x.over z)) (h : ovl o (some x) = some y) : Neat (n + k) y := by
  rw [ovl] at h
  split at h
  · cases h
  · injection h with h
    subst h
    refine hov _ ?_
    cases o with
    | none => exact Neat.zero
    | some z => exact ho z rfl
theorem over_neat {n k : Nat} {b : T} (hb : Neat k b) : ∀ {a : T}, Neat n a → Neat (n + k) (b.over a) := by
  induction b using T.ind' with
  | h b ihl ihm =>
    intro a ha
    by_cases h : a.kind = 5 ∧ b.kind = 5
    · obtain ⟨l', e, hks, hlen, hlk⟩ := over_look ha hb h.1 h.2
      rw [e]
      have := ha.len
      have := hb.len
      refine Neat.mkMap hks (by omega) fun p hp => ?_
      have h1 := look_some hks hp
      rw [hlk] at h1
      cases eb : look b.map p.1 with
      | none =>
        rw [eb, ovl] at h1
        exact ⟨ha.keyl h1, (ha.look h1).mono (by omega)⟩
      | some x =>
        rw [eb] at h1
        exact ⟨hb.keyl eb, ovl_neat (fun z hz => ha.look hz) (fun z hz => ihm _ (look_mem eb) (hb.look eb) hz) h1⟩
    · rw [over_strip h]
      exact (strip_neat hb).mono (by omega)

/-- What must be laid, under a key. -/
def dif (a b : Option T) : Option T :=
  match a, b with
  | none, none => none
  | some _, none => some T.zero
  | none, some x => some x
  | some was, some x => if T.cmp was x = 0 then none else if was.kind = 5 ∧ x.kind = 5 then some (x.diff was) else some x
theorem diff0_look {b : T} : ∀ {m l : List (ByteArray × T)}, KS l → ∃ l', diff0 m b (mkMap l) = mkMap l' ∧ KS l' ∧ l'.length ≤ l.length + m.length ∧ ∀ k, look l' k = if (look m k).isSome ∧ getT b k = none then some T.zero else look l k := by
  intro m
  induction m with
  | nil => intro l hl; exact ⟨l, rfl, hl, by simp, fun k => by simp [look]⟩
  | cons p r ih =>
    intro l hl
    rw [diff0]
    by_cases h0 : getT b p.1 = none
    · rw [if_pos h0, putT_mk hl]
      obtain ⟨l', e, hks, hle, hlk⟩ := ih (ins_KS hl p.1 T.zero)
      have := ins_length l p.1 T.zero
      refine ⟨l', e, hks, by rw [List.length_cons]; omega, fun k => ?_⟩
      rw [hlk, look_ins _ _ _ hl, look]
      by_cases he : p.1 = k
      · rw [if_pos he, if_pos he, if_pos (c := (some p.2).isSome = true ∧ getT b k = none) ⟨rfl, he ▸ h0⟩]; split <;> rfl
      · rw [if_neg he, if_neg he]
    · rw [if_neg h0]
      obtain ⟨l', e, hks, hle, hlk⟩ := ih hl
      refine ⟨l', e, hks, by rw [List.length_cons]; omega, fun k => ?_⟩
      rw [hlk, look]
      by_cases he : p.1 = k
      · subst he
        rw [if_neg (fun h => h0 h.2), if_neg (fun h => h0 h.2)]
      · rw [if_neg he]
theorem diffM_look {a : T} {m : List (ByteArray × T)} : ∀ {l : List (ByteArray × T)}, KS l → KS m → ∃ l', T.diffM m a (mkMap l) = mkMap l' ∧ KS l' ∧ l'.length ≤ l.length + m.length ∧
    ∀ k, look l' k = match look m k with
      | none => look l k
      | some x => match getT a k with
        | none => some x
        | some was => if T.cmp was x = 0 then look l k else if was.kind = 5 ∧ x.kind = 5 then some (x.diff was) else some x := by
  induction m with
  | nil => intro l hl _; exact ⟨l, by rw [T.diffM], hl, by simp, fun k => rfl⟩
  | cons p r ih =>
    intro l hl hm
    obtain ⟨key, x⟩ := p
    rw [T.diffM, T.diffP]
    have fin : ∀ l1, KS l1 → l1.length ≤ l.length + 1 → (look l1 key = match getT a key with
        | none => some x
        | some was => if T.cmp was x = 0 then look l key else if was.kind = 5 ∧ x.kind = 5 then some (x.diff was) else some x) → (∀ k, key ≠ k → look l1 k = look l k) →
        ∃ l', T.diffM r a (mkMap l1) = mkMap l' ∧ KS l' ∧ l'.length ≤ l.length + ((key, x) :: r).length ∧ ∀ k, look l' k = match look ((key, x) :: r) k with
      | none => look l k
      | some x => match getT a k with
        | none => some x
        | some was => if T.cmp was x = 0 then look l k else if was.kind = 5 ∧ x.kind = 5 then some (x.diff was) else some x := by
      intro l1 h1 hlen h2 h3
      obtain ⟨l', e, hks, hle, hlk⟩ := ih h1 hm.tail
      refine ⟨l', e, hks, by rw [List.length_cons]; omega, fun k => ?_⟩
      rw [hlk, look]
      by_cases he : key = k
      · subst he
        rw [if_pos rfl, look_not fun q hq e => klt_ne (hm.head q hq) e.symm]
        exact h2
      · rw [if_neg he, h3 k he]
    cases eg : getT a key with
    | none =>
      simp only [eg] at fin ⊢
      rw [putT_mk hl]
      have := ins_length l key x
      exact fin _ (ins_KS hl _ _) (by omega) (by rw [look_ins _ _ _ hl, if_pos rfl]) fun k hk => by rw [look_ins _ _ _ hl, if_neg hk]
    | some was =>
      simp only [eg] at fin ⊢
      by_cases hc : T.cmp was x = 0
      · rw [if_pos hc]
        exact fin _ hl (by omega) (by rw [if_pos hc]) fun k _ => rfl
      · rw [if_neg hc]
        by_cases h5 : was.kind = 5 ∧ x.kind = 5
        · rw [if_pos h5, putT_mk hl]
          have := ins_length l key (x.diff was)
          exact fin _ (ins_KS hl _ _) (by omega) (by rw [look_ins _ _ _ hl, if_pos rfl, if_neg hc, if_pos h5]) fun k hk => by rw [look_ins _ _ _ hl, if_neg hk]
        · rw [if_neg h5, putT_mk hl]
          have := ins_length l key x
          exact fin _ (ins_KS hl _ _) (by omega) (by rw [look_ins _ _ _ hl, if_pos rfl, if_neg hc, if_neg h5]) fun k hk => by rw [look_ins _ _ _ hl, if_neg hk]
theorem diff_look {n k : Nat} {a b : T} (ha : Neat n a) (hb : Neat k b) : ∃ l', b.diff a = mkMap l' ∧ KS l' ∧ l'.length ≤ a.map.length + b.map.length ∧ ∀ k, look l' k = dif (look a.map k) (look b.map k) := by
  rw [diff_eq]
  obtain ⟨l0, e0, hks0, hle0, hlk0⟩ := diff0_look (b := b) (m := a.map) (l := []) KS.nil
  rw [e0]
  obtain ⟨l', e, hks, hle, hlk⟩ := diffM_look (a := a) hks0 hb.KS
  refine ⟨l', e, hks, by simp at hle0; omega, fun k => ?_⟩
  rw [hlk, hlk0, getT_look hb, getT_look ha]
  cases ea : look a.map k with
  | none => cases eb : look b.map k <;> simp [dif, look]
  | some was =>
    cases eb : look b.map k with
    | none => simp [dif]
    | some x =>
      simp only [dif, Option.isSome_some, reduceCtorEq, and_false, if_false, look]
theorem diff_neat {n k : Nat} {b : T} (hb : Neat k b) : ∀ {a : T}, Neat n a → Neat (n + k) (b.diff a) := by
  induction b using T.ind' with
  | h b ihl ihm =>
    intro a ha
    obtain ⟨l', e, hks, hlen, hlk⟩ := diff_look ha hb
    rw [e]
    have := ha.len
    have := hb.len
    refine Neat.mkMap hks (by omega) fun p hp => ?_
    have h1 := look_some hks hp
    rw [hlk] at h1
    cases ea : look a.map p.1 with
    | none =>
      cases eb : look b.map p.1 with
      | none => rw [ea, eb] at h1; cases h1
      | some x =>
        rw [ea, eb, dif] at h1
        injection h1 with h1; subst h1
        exact ⟨hb.keyl eb, (hb.look eb).mono (by omega)⟩
    | some was =>
      cases eb : look b.map p.1 with
      | none =>
        rw [ea, eb, dif] at h1
        injection h1 with h1
        rw [← h1]
        exact ⟨ha.keyl ea, Neat.zero⟩
      | some x =>
        rw [ea, eb, dif] at h1
        refine ⟨hb.keyl eb, ?_⟩
        split at h1
        · cases h1
        · split at h1
          · injection h1 with h1; rw [← h1]; exact ihm _ (look_mem eb) (hb.look eb) (ha.look ea)
          · injection h1 with h1; rw [← h1]; exact (hb.look eb).mono (by omega)
end Go.Proofs.Ythkkmnmejciomaa

/- Layers, further: the reference's way to lay one map over another one; what the laws ask. -/
namespace Go.Proofs.Ythkkmnmejciomaa

/-- A pair of the upper map, laid. -/
def mrgP (p : ByteArray × T) (was : T) : List (ByteArray × T) := if p.2.kind = 0 then [] else [(p.1, p.2.over was)]
/-- Two rows made one, key by key. -/
def mrg : List (ByteArray × T) → List (ByteArray × T) → List (ByteArray × T)
  | xs, [] => xs
  | [], p :: ys => mrgP p T.zero ++ mrg [] ys
  | q :: xs, p :: ys => if klt q.1 p.1 then q :: mrg xs (p :: ys) else if q.1 = p.1 then mrgP p q.2 ++ mrg xs ys else mrgP p T.zero ++ mrg (q :: xs) ys
termination_by xs ys => xs.length + ys.length
theorem mrg_nil (xs : List (ByteArray × T)) : mrg xs [] = xs := by cases xs <;> rw [mrg]
theorem mrgP_mem {p z : ByteArray × T} {was : T} (h : z ∈ mrgP p was) : z.1 = p.1 := by
  unfold mrgP at h
  split at h
  · cases h
  · simp at h; rw [h]
theorem mrgP_look (p : ByteArray × T) (was : T) (r : List (ByteArray × T)) (k : ByteArray) : look (mrgP p was ++ r) k = if p.1 = k then (if p.2.kind = 0 then look r k else some (p.2.over was)) else look r k := by
  unfold mrgP
  by_cases h0 : p.2.kind = 0
  · rw [if_pos h0, if_pos h0]; simp
  · rw [if_neg h0, if_neg h0, List.singleton_append, look]
theorem mrgP_KS {p : ByteArray × T} {was : T} {r : List (ByteArray × T)} (h : KS r) (hp : ∀ q ∈ r, klt p.1 q.1 = true) : KS (mrgP p was ++ r) := by
  unfold mrgP
  split
  · exact h
  · exact KS_cons h hp
theorem mrg_all (n : Nat) : ∀ {xs ys : List (ByteArray × T)}, xs.length + ys.length ≤ n → KS xs → KS ys →
    (∀ z ∈ mrg xs ys, (∃ q ∈ xs, q.1 = z.1) ∨ ∃ p ∈ ys, p.1 = z.1) ∧ KS (mrg xs ys) ∧ ∀ k, look (mrg xs ys) k = ovl (look xs k) (look ys k) := by
  induction n with
  | zero =>
    intro xs ys hn ha hb
    obtain rfl : xs = [] := List.length_eq_zero_iff.1 (by omega)
    obtain rfl : ys = [] := List.length_eq_zero_iff.1 (by omega)
    rw [mrg]
    exact ⟨by simp, KS.nil, fun k => rfl⟩
  | succ n ih =>
    intro xs ys hn ha hb
    match xs, ys with
    | xs, [] =>
      rw [mrg_nil]
      exact ⟨fun z hz => .inl ⟨z, hz, rfl⟩, ha, fun k => rfl⟩
    | [], p :: ys =>
      rw [mrg]
      obtain ⟨h1, h2, h3⟩ := ih (xs := []) (ys := ys) (by simp at hn ⊢; omega) ha hb.tail
      refine ⟨fun z hz => ?_, mrgP_KS h2 fun z hz => ?_, fun k => ?_⟩
      · rcases List.mem_append.1 hz with hz | hz
        · exact .inr ⟨p, by simp, (mrgP_mem hz).symm⟩
        · rcases h1 z hz with ⟨q, hq, _⟩ | ⟨q, hq, e⟩
          · cases hq
          · exact .inr ⟨q, by simp [hq], e⟩
      · rcases h1 z hz with ⟨q, hq, _⟩ | ⟨q, hq, e⟩
        · cases hq
        · rw [← e]; exact hb.head q hq
      · rw [mrgP_look, h3, look.eq_def (p :: ys)]
        simp only
        by_cases he : p.1 = k
        · rw [if_pos he, if_pos he, look_not (m := ys) fun q hq e => klt_ne (hb.head q hq) (he.trans e.symm)]
          rfl
        · rw [if_neg he, if_neg he]
    | q :: xs, p :: ys =>
      rw [mrg]
      by_cases hk : klt q.1 p.1 = true
      · rw [if_pos hk]
        obtain ⟨h1, h2, h3⟩ := ih (xs := xs) (ys := p :: ys) (by simp at hn ⊢; omega) ha.tail hb
        have hlt : ∀ z ∈ p :: ys, klt q.1 z.1 = true := fun z hz => by
          rcases List.mem_cons.1 hz with rfl | hz
          · exact hk
          · exact klt_trans hk (hb.head z hz)
        refine ⟨fun z hz => ?_, KS_cons h2 fun z hz => ?_, fun k => ?_⟩
        · rcases List.mem_cons.1 hz with rfl | hz
          · exact .inl ⟨z, by simp, rfl⟩
          · rcases h1 z hz with ⟨u, hu, e⟩ | h
            · exact .inl ⟨u, by simp [hu], e⟩
            · exact .inr h
        · rcases h1 z hz with ⟨u, hu, e⟩ | ⟨u, hu, e⟩
          · rw [← e]; exact ha.head u hu
          · rw [← e]; exact hlt u hu
        · rw [look, h3, look.eq_def (q :: xs)]
          simp only
          by_cases he : q.1 = k
          · rw [if_pos he, if_pos he, look_not (m := p :: ys) fun z hz e => klt_ne (hlt z hz) (he.trans e.symm)]
            rfl
          · rw [if_neg he, if_neg he]
      · rw [if_neg hk]
        by_cases he : q.1 = p.1
        · rw [if_pos he]
          obtain ⟨h1, h2, h3⟩ := ih (xs := xs) (ys := ys) (by simp at hn ⊢; omega) ha.tail hb.tail
          have hlt : ∀ z ∈ mrg xs ys, klt p.1 z.1 = true := fun z hz => by
            rcases h1 z hz with ⟨u, hu, e⟩ | ⟨u, hu, e⟩
            · rw [← e, ← he]; exact ha.head u hu
            · rw [← e]; exact hb.head u hu
          refine ⟨fun z hz => ?_, mrgP_KS h2 hlt, fun k => ?_⟩
          · rcases List.mem_append.1 hz with hz | hz
            · exact .inr ⟨p, by simp, (mrgP_mem hz).symm⟩
            · rcases h1 z hz with ⟨u, hu, e⟩ | ⟨u, hu, e⟩
              · exact .inl ⟨u, by simp [hu], e⟩
              · exact .inr ⟨u, by simp [hu], e⟩
          · rw [mrgP_look, look.eq_def (q :: xs), look.eq_def (p :: ys)]
            simp only
            by_cases hpk : p.1 = k
            · rw [if_pos hpk, if_pos (he.trans hpk), if_pos hpk, look_not fun z hz e => klt_ne (hlt z hz) (hpk.trans e.symm)]
              rfl
            · rw [if_neg hpk, if_neg fun e => hpk (he.symm.trans e), if_neg hpk, h3]
        · rw [if_neg he]
          have hpq : klt p.1 q.1 = true := by
            rcases klt_total q.1 p.1 with h | h | h
            · exact absurd h hk
            · exact absurd h he
            · exact h
          obtain ⟨h1, h2, h3⟩ := ih (xs := q :: xs) (ys := ys) (by simp at hn ⊢; omega) ha hb.tail
          have hla : ∀ u ∈ q :: xs, klt p.1 u.1 = true := fun u hu => by
            rcases List.mem_cons.1 hu with rfl | hu
            · exact hpq
            · exact klt_trans hpq (ha.head u hu)
          have hlt : ∀ z ∈ mrg (q :: xs) ys, klt p.1 z.1 = true := fun z hz => by
            rcases h1 z hz with ⟨u, hu, e⟩ | ⟨u, hu, e⟩
            · rw [← e]; exact hla u hu
            · rw [← e]; exact hb.head u hu
          refine ⟨fun z hz => ?_, mrgP_KS h2 hlt, fun k => ?_⟩
          · rcases List.mem_append.1 hz with hz | hz
            · exact .inr ⟨p, by simp, (mrgP_mem hz).symm⟩
            · rcases h1 z hz with h | ⟨u, hu, e⟩
              · exact .inl h
              · exact .inr ⟨u, by simp [hu], e⟩
          · rw [mrgP_look, look.eq_def (p :: ys)]
            simp only
            by_cases hpk : p.1 = k
            · rw [if_pos hpk, if_pos hpk, look_not fun z hz e => klt_ne (hlt z hz) (hpk.trans e.symm), look_not (m := q :: xs) fun z hz e => klt_ne (hla z hz) (hpk.trans e.symm)]
              rfl
            · rw [if_neg hpk, if_neg hpk, h3]
theorem mrg_over {n k : Nat} {a b : T} (ha : Neat n a) (hb : Neat k b) (h5 : a.kind = 5) (h6 : b.kind = 5) : mkMap (mrg a.map b.map) = b.over a := by
  obtain ⟨l', e, hks, hlen, hlk⟩ := over_look ha hb h5 h6
  obtain ⟨-, h2, h3⟩ := mrg_all _ (Nat.le_refl _) ha.KS hb.KS
  rw [e, KS_ext h2 hks fun k => by rw [h3, hlk]]
section
variable {xs ys : List (ByteArray × T)} {i k : Nat}
theorem mrg_A (hi : i < xs.length) (h : k = ys.length ∨ ∃ h : k < ys.length, klt xs[i].1 ys[k].1 = true) : mrg (xs.drop i) (ys.drop k) = xs[i] :: mrg (xs.drop (i + 1)) (ys.drop k) := by
  rcases h with rfl | ⟨hk, h⟩
  · rw [List.drop_length, mrg_nil, mrg_nil, List.drop_eq_getElem_cons hi]
  · rw [List.drop_eq_getElem_cons hi, List.drop_eq_getElem_cons hk, mrg, if_pos h]
theorem mrg_B (hi : i < xs.length) (hk : k < ys.length) (h : xs[i].1 = ys[k].1) : mrg (xs.drop i) (ys.drop k) = mrgP ys[k] xs[i].2 ++ mrg (xs.drop (i + 1)) (ys.drop (k + 1)) := by
  rw [List.drop_eq_getElem_cons hi, List.drop_eq_getElem_cons hk, mrg, if_neg (by rw [h, klt_irrefl]; simp), if_pos h]
theorem mrg_C (hk : k < ys.length) (h : i = xs.length ∨ ∃ h : i < xs.length, klt xs[i].1 ys[k].1 = false ∧ xs[i].1 ≠ ys[k].1) : mrg (xs.drop i) (ys.drop k) = mrgP ys[k] T.zero ++ mrg (xs.drop i) (ys.drop (k + 1)) := by
  rcases h with rfl | ⟨hi, h1, h2⟩
  · rw [List.drop_length, List.drop_eq_getElem_cons hk, mrg]
  · rw [List.drop_eq_getElem_cons hi, List.drop_eq_getElem_cons hk, mrg, if_neg (by rw [h1]; simp), if_neg h2]
theorem mrg_len : ∀ (xs ys : List (ByteArray × T)), (mrg xs ys).length ≤ xs.length + ys.length := by
  intro xs ys
  generalize hn : xs.length + ys.length = n
  induction n using Nat.strongRecOn generalizing xs ys with
  | ind n ih =>
    have hP : ∀ p was, (mrgP p was).length ≤ 1 := fun p was => by unfold mrgP; split <;> simp
    match xs, ys with
    | xs, [] => rw [mrg_nil]; simp at hn; omega
    | [], p :: ys =>
      rw [mrg, List.length_append]
      have := ih _ (by simp at hn ⊢; omega) [] ys rfl
      have := hP p T.zero
      simp at *; omega
    | q :: xs, p :: ys =>
      rw [mrg]
      split
      · have := ih _ (by simp at hn ⊢; omega) xs (p :: ys) rfl
        simp at *; omega
      · split
        · rw [List.length_append]
          have := ih _ (by simp at hn ⊢; omega) xs ys rfl
          have := hP p q.2
          simp at *; omega
        · rw [List.length_append]
          have := ih _ (by simp at hn ⊢; omega) (q :: xs) ys rfl
          have := hP p T.zero
          simp at *; omega
end

theorem over_zero (x : T) : x.over T.zero = x.strip := over_strip fun h => by simp [T.zero, T.kind] at h
theorem over_kind (b a : T) (ha : a.kind = 5 → ∃ n, Neat n a) (hb : ∃ n, Neat n b) : (b.over a).kind = b.kind := by
  obtain ⟨k, hb⟩ := hb
  by_cases h : a.kind = 5 ∧ b.kind = 5
  · obtain ⟨n, ha⟩ := ha h.1
    obtain ⟨l', e, _⟩ := over_look ha hb h.1 h.2
    rw [e, h.2]; rfl
  · rw [over_strip h, strip_kind]
theorem over_plain {n k : Nat} {a b : T} (ha : Neat n a) (hb : Neat k b) (h6 : b.kind = 5) (h5 : a.kind = 5) (hm : a.map = []) : b.over a = b.strip := by
  obtain ⟨l', e, hks, -, hlk⟩ := over_look ha hb h5 h6
  rw [e, strip_eq, if_pos h6, KS_ext hks (stripM_KS hb.KS) fun k => ?_]
  rw [hlk, look_stripM hb.KS, hm]
  cases look b.map k with
  | none => rfl
  | some x =>
    simp only [ovl, look, Option.getD_none, over_zero, Option.bind_some]
theorem over_self {n : Nat} {p : T} (hn : Neat n p) (hp : PlainT p) : p.over p = p := by
  induction p using T.ind' with
  | h p ihl ihm =>
    by_cases h5 : p.kind = 5
    · obtain ⟨l', e, hks, -, hlk⟩ := over_look hn hn h5 h5
      rw [e, KS_ext hks hn.KS fun k => ?_, ← hn.map h5]
      rw [hlk]
      cases ex : look p.map k with
      | none => rfl
      | some x =>
        obtain ⟨h0, hx⟩ := plain_sub hn h5 hp ex
        rw [ovl, if_neg h0, Option.getD_some, ihm _ (look_mem ex) (hn.look ex) hx]
    · rw [over_strip fun h => h5 h.1]; exact hp
theorem diff_self {n : Nat} {p : T} (hn : Neat n p) : (p.diff p).map = [] := by
  obtain ⟨l', e, hks, -, hlk⟩ := diff_look hn hn
  rw [e]
  refine KS_ext (m := []) hks KS.nil fun k => ?_
  rw [show (mkMap l').map = l' from rfl, hlk]
  cases look p.map k with
  | none => rfl
  | some x => rw [dif, if_pos (cmp_1 x).refl]; rfl
theorem diff_kind {n k : Nat} {a b : T} (ha : Neat n a) (hb : Neat k b) : (b.diff a).kind = 5 := by
  obtain ⟨l', e, _⟩ := diff_look ha hb
  rw [e]; rfl
theorem over_diff {n k : Nat} {q : T} (hq : Neat k q) (hqp : PlainT q) (h6 : q.kind = 5) : ∀ {p : T}, Neat n p → PlainT p → p.kind = 5 → (q.diff p).over p = q := by
  induction q using T.ind' with
  | h q ihl ihm =>
    intro p hp hpp h5
    obtain ⟨d, ed, hdk, -, hdl⟩ := diff_look hp hq
    obtain ⟨l', e, hks, -, hlk⟩ := over_look hp (diff_neat hq hp) h5 (diff_kind hp hq)
    rw [e, KS_ext hks hq.KS fun k => ?_, ← hq.map h6]
    rw [hlk, ed, show (mkMap d).map = d from rfl, hdl]
    cases ew : look p.map k with
    | none =>
      cases ex : look q.map k with
      | none => rfl
      | some x =>
        obtain ⟨h0, hx⟩ := plain_sub hq h6 hqp ex
        rw [dif, ovl, if_neg h0, Option.getD_none, over_zero, hx]
    | some was =>
      obtain ⟨hw0, hwp⟩ := plain_sub hp h5 hpp ew
      cases ex : look q.map k with
      | none => rw [dif, ovl, if_pos (show T.zero.kind = 0 from rfl)]
      | some x =>
        obtain ⟨h0, hx⟩ := plain_sub hq h6 hqp ex
        rw [dif]
        by_cases hc : T.cmp was x = 0
        · rw [if_pos hc, ovl, cmp_is (hp.look ew).parts (hq.look ex).parts hc]
        · rw [if_neg hc]
          by_cases hb : was.kind = 5 ∧ x.kind = 5
          · rw [if_pos hb, ovl, if_neg (by rw [diff_kind (hp.look ew) (hq.look ex)]; omega), Option.getD_some, ihm _ (look_mem ex) (hq.look ex) hx hb.2 (hp.look ew) hwp hb.1]
          · rw [if_neg hb, ovl, if_neg h0, Option.getD_some, over_strip hb, hx]
end Go.Proofs.Ythkkmnmejciomaa

