/- Several texts as one. -/
import Derived.Test.YtmdihildjblgnaaLeafB
import Derived.Test.YtmdihildjblgnaaOver
import Derived.Test.YtmdihildjblgnaaPath
import Derived.Test.YtmdihildjblgnaaP3B
import Derived.Deep.RegionHeld3
import Derived.Deep.DrawnRows
import Derived.Test.YtmdihildjblgnaaRLeaves
import Derived.Test.YtmdihildjblgnaaRBegins
/- What is cut, and what is merged, plainly. -/
namespace Go.Proofs.Ytmdihildjblgnaa

/-- A map's values turned one by one, or struck. -/
def fmap (f : ByteArray → T → Option T) (l : List (ByteArray × T)) : List (ByteArray × T) := l.filterMap fun p => (f p.1 p.2).map fun y => (p.1, y)
theorem fmap_cons (f : ByteArray → T → Option T) (p : ByteArray × T) (l : List (ByteArray × T)) : fmap f (p :: l) = (match f p.1 p.2 with | none => [] | some y => [(p.1, y)]) ++ fmap f l := by
  unfold fmap
  rw [List.filterMap_cons]
  cases f p.1 p.2 <;> rfl
theorem fmap_mem {f : ByteArray → T → Option T} {l : List (ByteArray × T)} {q : ByteArray × T} (h : q ∈ fmap f l) : ∃ z, (q.1, z) ∈ l ∧ f q.1 z = some q.2 := by
  obtain ⟨p, hp, e⟩ := List.mem_filterMap.1 h
  cases ef : f p.1 p.2 with
  | none => rw [ef] at e; cases e
  | some y =>
    rw [ef] at e
    injection e with e
    subst e
    exact ⟨p.2, hp, ef⟩
theorem fmap_KS {f : ByteArray → T → Option T} {l : List (ByteArray × T)} (h : KS l) : KS (fmap f l) := by
  induction l with
  | nil => exact KS.nil
  | cons p r ih =>
    rw [fmap_cons]
    split
    · exact ih h.tail
    · exact KS_cons (ih h.tail) fun q hq => by
        obtain ⟨z, hz, -⟩ := fmap_mem hq
        exact h.head (q.1, z) hz
theorem fmap_len (f : ByteArray → T → Option T) (l : List (ByteArray × T)) : (fmap f l).length ≤ l.length := List.length_filterMap_le _ _
theorem look_fmap {f : ByteArray → T → Option T} {l : List (ByteArray × T)} (h : KS l) (k : ByteArray) : look (fmap f l) k = (look l k).bind (f k) := by
  induction l with
  | nil => rfl
  | cons p r ih =>
    rw [fmap_cons, look]
    by_cases he : p.1 = k
    · subst he
      rw [if_pos rfl, Option.bind_some]
      cases e : f p.1 p.2 with
      | none =>
        simp only [List.nil_append]
        exact look_not fun q hq e2 => by
          obtain ⟨z, hz, -⟩ := fmap_mem hq
          exact klt_ne (h.head (q.1, z) hz) e2.symm
      | some y => simp only [List.singleton_append]; rw [look, if_pos rfl]
    · rw [if_neg he, ← ih h.tail]
      cases e : f p.1 p.2 with
      | none => rfl
      | some y => simp only [List.singleton_append]; rw [look, if_neg he]
theorem fmap_take (f : ByteArray → T → Option T) (l : List (ByteArray × T)) (q : Nat) (h : q < l.length) : fmap f (l.take (q + 1)) = fmap f (l.take q) ++ (match f l[q].1 l[q].2 with | none => [] | some y => [(l[q].1, y)]) := by
  rw [List.take_succ_eq_append_getElem h, fmap, List.filterMap_append, ← fmap]
  congr 1
  rw [List.filterMap_cons, List.filterMap_nil]
  cases f l[q].1 l[q].2 <;> rfl

mutual
/-- What is left of a without the leaves of the first. -/
def T.cut : T → T → T
  | .mk _ _ _ _ _ m, a => if m = [] ∨ a.kind ≠ 5 then T.zero else if (T.cutM m a).map = [] then T.zero else T.cutM m a
def T.cutM : List (ByteArray × T) → T → T
  | [], a => a
  | p :: r, a => T.cutM r (T.cutP p a)
def T.cutP : (ByteArray × T) → T → T
  | (k, x), a => match getT a k with
    | none => a
    | some z => if (x.cut z).map = [] then dropT a k else putT a k (x.cut z)
end
theorem cut_eq (t a : T) : t.cut a = if t.map = [] ∨ a.kind ≠ 5 then T.zero else if (T.cutM t.map a).map = [] then T.zero else T.cutM t.map a := by cases t; rw [T.cut]; rfl
theorem cutP_eq (p : ByteArray × T) (a : T) : T.cutP p a = match getT a p.1 with
    | none => a
    | some z => if (p.2.cut z).map = [] then dropT a p.1 else putT a p.1 (p.2.cut z) := by cases p; rw [T.cutP]
theorem cutM_snoc (l : List (ByteArray × T)) (p : ByteArray × T) : ∀ a : T, T.cutM (l ++ [p]) a = T.cutP p (T.cutM l a) := by
  induction l with
  | nil => intro a; rw [List.nil_append, T.cutM, T.cutM, T.cutM]
  | cons q r ih => intro a; rw [List.cons_append, T.cutM, T.cutM, ih]
/-- What is left under a key of what is live. -/
def cutl (z : T) : Option T → Option T
  | none => some z
  | some x => if (x.cut z).map = [] then none else some (x.cut z)
/-- One key. -/
theorem cutP_mk {l : List (ByteArray × T)} (hl : KS l) (p : ByteArray × T) : ∃ l1, T.cutP p (mkMap l) = mkMap l1 ∧ KS l1 ∧ l1.length ≤ l.length + 1 ∧ (look l1 p.1 = (look l p.1).bind fun z => cutl z (some p.2)) ∧ ∀ k, p.1 ≠ k → look l1 k = look l k := by
  rw [cutP_eq, getT_mk]
  cases e : look l p.1 with
  | none => exact ⟨l, rfl, hl, by omega, by rw [e]; rfl, fun _ _ => rfl⟩
  | some z =>
    simp only
    by_cases h0 : (p.2.cut z).map = []
    · rw [if_pos h0, dropT_mk]
      exact ⟨_, rfl, del_KS hl _, Nat.le_trans (del_len _ _) (by omega), by rw [look_del, if_pos rfl, Option.bind_some, cutl, if_pos h0], fun k hk => by rw [look_del, if_neg hk]⟩
    · rw [if_neg h0, putT_mk hl]
      have := ins_length l p.1 (p.2.cut z)
      exact ⟨_, rfl, ins_KS hl _ _, by omega, by rw [look_ins _ _ _ hl, if_pos rfl, Option.bind_some, cutl, if_neg h0], fun k hk => by rw [look_ins _ _ _ hl, if_neg hk]⟩
theorem cutM_mk {m : List (ByteArray × T)} : ∀ {l : List (ByteArray × T)}, KS l → KS m → T.cutM m (mkMap l) = mkMap (fmap (fun k z => cutl z (look m k)) l) := by
  induction m with
  | nil =>
    intro l hl _
    rw [T.cutM]
    congr 1
    exact KS_ext hl (fmap_KS hl) fun k => by
      rw [look_fmap hl]
      cases look l k <;> rfl
  | cons p r ih =>
    intro l hl hm
    obtain ⟨l1, e, hks, -, h1, h2⟩ := cutP_mk hl p
    rw [T.cutM, e, ih hks hm.tail]
    congr 1
    refine KS_ext (fmap_KS hks) (fmap_KS hl) fun k => ?_
    rw [look_fmap hks, look_fmap hl, look]
    by_cases he : p.1 = k
    · subst he
      rw [if_pos rfl, h1, look_not fun q hq e2 => klt_ne (hm.head q hq) e2.symm]
      cases look l p.1 with
      | none => rfl
      | some z =>
        simp only [Option.bind_some]
        cases cutl z (some p.2) <;> rfl
    · rw [if_neg he, h2 k he]
theorem cut_is {n : Nat} {t a : T} (ha : Neat n a) (ht : KS t.map) (h : t.map ≠ []) (h5 : a.kind = 5) : t.cut a = if fmap (fun k z => cutl z (look t.map k)) a.map = [] then T.zero else mkMap (fmap (fun k z => cutl z (look t.map k)) a.map) := by
  have e : T.cutM t.map a = mkMap (fmap (fun k z => cutl z (look t.map k)) a.map) := by
    have := cutM_mk (m := t.map) ha.KS ht
    rw [← ha.map h5] at this
    exact this
  rw [cut_eq, if_neg (by rintro (h2 | h2); exact h h2; exact h2 h5), e]
  rfl
theorem cut_none {t a : T} (h : t.map = [] ∨ a.kind ≠ 5) : t.cut a = T.zero := by rw [cut_eq, if_pos h]
theorem zero_map : T.zero.map = [] := rfl
/-- What is left is a map with something in it, or nothing. -/
theorem cut_zero {n : Nat} {t a : T} (ha : Neat n a) (ht : KS t.map) (h : (t.cut a).map = []) : t.cut a = T.zero := by
  by_cases h0 : t.map = [] ∨ a.kind ≠ 5
  · exact cut_none h0
  · have h1 : t.map ≠ [] := fun e => h0 (.inl e)
    have h2 : a.kind = 5 := Classical.byContradiction fun e => h0 (.inr e)
    rw [cut_is ha ht h1 h2] at h ⊢
    split
    · rfl
    · next h3 => rw [if_neg h3] at h; exact absurd h h3
theorem cutl_neat {n : Nat} {z x y : T} (h : Neat n (x.cut z)) (e : cutl z (some x) = some y) : Neat n y := by
  rw [cutl] at e
  split at e
  · cases e
  · injection e with e; rw [← e]; exact h
theorem cut_neat {n k : Nat} {t : T} (ht : Neat k t) : ∀ {a : T}, Neat n a → Neat n (t.cut a) := by
  induction t using T.ind' with
  | h t ihl ihm =>
    intro a ha
    by_cases h0 : t.map = [] ∨ a.kind ≠ 5
    · rw [cut_none h0]; exact Neat.zero
    · rw [cut_is ha ht.KS (fun e => h0 (.inl e)) (Classical.byContradiction fun e => h0 (.inr e))]
      split
      · exact Neat.zero
      · refine Neat.mkMap (fmap_KS ha.KS) (Nat.le_trans (fmap_len _ _) ha.len) fun p hp => ?_
        obtain ⟨z, hz, e⟩ := fmap_mem hp
        refine ⟨ha.key (p.1, z) hz, ?_⟩
        cases el : look t.map p.1 with
        | none => rw [el, cutl] at e; injection e with e; rw [← e]; exact ha.mem (p.1, z) hz
        | some x => rw [el] at e; exact cutl_neat (ihm _ (look_mem el) (ht.look el) (ha.mem (p.1, z) hz)) e
/-- Cut by itself a value is gone. -/
theorem cut_self {n : Nat} {t : T} (ht : Neat n t) : t.cut t = T.zero := by
  induction t using T.ind' with
  | h t ihl ihm =>
    by_cases h0 : t.map = [] ∨ t.kind ≠ 5
    · exact cut_none h0
    · rw [cut_is ht ht.KS (fun e => h0 (.inl e)) (Classical.byContradiction fun e => h0 (.inr e)), if_pos]
      cases e : fmap (fun k z => cutl z (look t.map k)) t.map with
      | nil => rfl
      | cons q r =>
        have hq : q ∈ fmap (fun k z => cutl z (look t.map k)) t.map := by rw [e]; simp
        obtain ⟨z, hz, e2⟩ := fmap_mem hq
        rw [look_some ht.KS hz, cutl, ihm _ hz (ht.mem _ hz), if_pos zero_map] at e2
        cases e2

/-! Which leaves are kept. -/
/-- A path that neither begins as one of the leaves' paths, nor begins one. -/
def aside (L : List LeafT) (p : List ByteArray) : Bool := L.all fun x => decide (¬ x.1 <+: p) && decide (¬ p <+: x.1)
/-- The leaves that are kept. -/
def kept (t a : T) : List LeafT := a.leaves.filter fun x => aside t.leaves x.1
theorem aside_iff {L : List LeafT} {p : List ByteArray} : aside L p = true ↔ ∀ x ∈ L, ¬ x.1 <+: p ∧ ¬ p <+: x.1 := by
  unfold aside
  simp only [List.all_eq_true, Bool.and_eq_true, decide_eq_true_eq]
theorem aside_nil {L : List LeafT} (h : L ≠ []) : aside L [] = false := by
  cases L with
  | nil => exact absurd rfl h
  | cons x r => simp [aside]
theorem mem_leavesM {m : List (ByteArray × T)} {x : LeafT} : x ∈ T.leavesM m ↔ ∃ p ∈ m, ∃ y ∈ p.2.leaves, x = (p.1 :: y.1, y.2) := by
  induction m with
  | nil => simp [T.leavesM]
  | cons p r ih =>
    rw [T.leavesM, leavesP_eq, List.mem_append, ih, List.mem_map]
    constructor
    · rintro (⟨y, hy, rfl⟩ | ⟨q, hq, y, hy, rfl⟩)
      · exact ⟨p, by simp, y, hy, rfl⟩
      · exact ⟨q, by simp [hq], y, hy, rfl⟩
    · rintro ⟨q, hq, y, hy, rfl⟩
      rcases List.mem_cons.1 hq with rfl | hq
      · exact .inl ⟨y, hy, rfl⟩
      · exact .inr ⟨q, hq, y, hy, rfl⟩
/-- What is aside, behind a first step. -/
theorem aside_cons {m : List (ByteArray × T)} (hm : KS m) (k : ByteArray) (p : List ByteArray) : aside (T.leavesM m) (k :: p) = match look m k with
    | none => true
    | some x => aside x.leaves p := by
  rw [Bool.eq_iff_iff, aside_iff]
  cases e : look m k with
  | none =>
    simp only [iff_true]
    intro x hx
    obtain ⟨q, hq, y, hy, rfl⟩ := mem_leavesM.1 hx
    have hne : q.1 ≠ k := fun e2 => by
      have := look_some hm hq
      rw [e2, e] at this
      cases this
    exact ⟨fun h => hne (List.cons_prefix_cons.1 h).1, fun h => hne (List.cons_prefix_cons.1 h).1.symm⟩
  | some x =>
    simp only
    rw [aside_iff]
    constructor
    · intro h y hy
      have := h (k :: y.1, y.2) (mem_leavesM.2 ⟨(k, x), look_mem e, y, hy, rfl⟩)
      exact ⟨fun h2 => this.1 (List.cons_prefix_cons.2 ⟨rfl, h2⟩), fun h2 => this.2 (List.cons_prefix_cons.2 ⟨rfl, h2⟩)⟩
    · intro h y hy0
      obtain ⟨q, hq, y, hy, rfl⟩ := mem_leavesM.1 hy0
      have hl := look_some hm hq
      refine ⟨fun h2 => ?_, fun h2 => ?_⟩
      · obtain ⟨e2, h3⟩ := List.cons_prefix_cons.1 h2
        rw [e2, e] at hl
        injection hl with hl
        subst hl
        exact (h y hy).1 h3
      · obtain ⟨e2, h3⟩ := List.cons_prefix_cons.1 h2
        rw [← e2, e] at hl
        injection hl with hl
        subst hl
        exact (h y hy).2 h3
theorem filter_P (L : List LeafT) (p : ByteArray × T) : (T.leavesP p).filter (fun x => aside L x.1) = (p.2.leaves.filter fun y => aside L (p.1 :: y.1)).map fun l => (p.1 :: l.1, l.2) := by
  rw [leavesP_eq, List.filter_map]; rfl
theorem leavesM_fmap {f : ByteArray → T → Option T} (l : List (ByteArray × T)) (g : LeafT → Bool) (h : ∀ p ∈ l, (T.leavesP p).filter g = match f p.1 p.2 with | none => [] | some y => T.leavesP (p.1, y)) : T.leavesM (fmap f l) = (T.leavesM l).filter g := by
  induction l with
  | nil => rfl
  | cons p r ih =>
    have hp := h p (by simp)
    rw [fmap_cons, T.leavesM, List.filter_append, hp, ← ih fun q hq => h q (by simp [hq])]
    cases f p.1 p.2 with
    | none => rfl
    | some y => simp only [List.singleton_append]; rw [T.leavesM]
/-- **What is left has just the leaves that are kept.** -/
theorem cut_kept {n k : Nat} {t : T} (ht : Neat k t) : ∀ {a : T}, Neat n a → (kept t a = [] → (t.cut a).map = []) ∧ (kept t a ≠ [] → (t.cut a).map ≠ [] ∧ (t.cut a).leaves = kept t a) := by
  induction t using T.ind' with
  | h t ihl ihm =>
    intro a ha
    by_cases h0 : t.map = [] ∨ a.map = []
    · have hk : kept t a = [] := by
        rw [kept, List.filter_eq_nil_iff]
        intro x hx
        rcases h0 with h0 | h0
        · rw [leaves_eq, if_pos h0]; simp [aside]
        · rw [leaves_eq a, if_pos h0, List.mem_singleton] at hx
          subst hx
          rw [aside_nil (leaves_ne t)]; simp
      rw [hk]
      refine ⟨fun _ => ?_, fun h => absurd rfl h⟩
      rcases h0 with h0 | h0
      · rw [cut_none (.inl h0)]; rfl
      · by_cases h5 : a.kind = 5
        · by_cases h1 : t.map = []
          · rw [cut_none (.inl h1)]; rfl
          · rw [cut_is ha ht.KS h1 h5, if_pos (by rw [h0]; rfl)]; rfl
        · rw [cut_none (.inr h5)]; rfl
    · have h1 : t.map ≠ [] := fun e => h0 (.inl e)
      have h2 : a.map ≠ [] := fun e => h0 (.inr e)
      have h5 : a.kind = 5 := Classical.byContradiction fun e => h2 (ha.nomap e)
      have hf : T.leavesM (fmap (fun k z => cutl z (look t.map k)) a.map) = kept t a := by
        rw [kept, leaves_eq a, if_neg h2, leaves_eq t, if_neg h1]
        refine leavesM_fmap a.map _ fun p hp => ?_
        rw [filter_P]
        cases el : look t.map p.1 with
        | none =>
          have : (p.2.leaves.filter fun y => aside (T.leavesM t.map) (p.1 :: y.1)) = p.2.leaves := List.filter_eq_self.2 fun y _ => by rw [aside_cons ht.KS, el]
          rw [this, cutl]
          simp only
          rw [leavesP_eq]
        | some x =>
          have e2 : (p.2.leaves.filter fun y => aside (T.leavesM t.map) (p.1 :: y.1)) = kept x p.2 := List.filter_congr fun y _ => by rw [aside_cons ht.KS, el]
          rw [e2, cutl]
          obtain ⟨i1, i2⟩ := ihm _ (look_mem el) (ht.look el) (ha.mem p hp)
          by_cases hk : kept x p.2 = []
          · rw [if_pos (i1 hk), hk]; rfl
          · rw [if_neg (i2 hk).1]
            simp only
            rw [leavesP_eq]
            show _ = ((x.cut p.2).leaves).map _
            rw [(i2 hk).2]
      rw [cut_is ha ht.KS h1 h5]
      by_cases hz : fmap (fun k z => cutl z (look t.map k)) a.map = []
      · rw [if_pos hz]
        refine ⟨fun _ => rfl, fun h => ?_⟩
        rw [hz] at hf
        exact absurd hf.symm h
      · rw [if_neg hz]
        refine ⟨fun h => ?_, fun h => ⟨hz, ?_⟩⟩
        · rw [h] at hf
          cases e : fmap (fun k z => cutl z (look t.map k)) a.map with
          | nil => exact absurd e hz
          | cons q r =>
            rw [e, T.leavesM, leavesP_eq] at hf
            have := leaves_ne q.2
            have h3 := List.append_eq_nil_iff.1 hf
            simp [this] at h3
        · have hz' : (mkMap (fmap (fun k z => cutl z (look t.map k)) a.map)).map ≠ [] := hz
          rw [leaves_eq, if_neg hz']
          exact hf

/-! Merged. -/
/-- What only the old one had is cut away. -/
def mergeO : List (ByteArray × T) → T → T → T
  | [], _, a => a
  | p :: r, now, a => mergeO r now (if getT now p.1 = none then T.cutP p a else a)
mutual
/-- What is live (third) with what the first has, without what the second had alone. -/
def T.merge : T → T → T → T
  | .mk k b n s l m, o, v => if m = [] then .mk k b n s l m else mergeO o.map (.mk k b n s l m) (T.mergeM m o v (mkMap (mapT v.map)))
def T.mergeM : List (ByteArray × T) → T → T → T → T
  | [], _, _, a => a
  | p :: r, o, v, a => T.mergeM r o v (T.mergeP p o v a)
def T.mergeP : (ByteArray × T) → T → T → T → T
  | (k, x), o, v, a => putT a k (x.merge ((getT o k).getD T.zero) ((getT v k).getD T.zero))
end
theorem merge_eq (t o v : T) : t.merge o v = if t.map = [] then t else mergeO o.map t (T.mergeM t.map o v (mkMap (mapT v.map))) := by cases t; rw [T.merge]; rfl
theorem mergeP_eq (p : ByteArray × T) (o v a : T) : T.mergeP p o v a = putT a p.1 (p.2.merge ((getT o p.1).getD T.zero) ((getT v p.1).getD T.zero)) := by cases p; rw [T.mergeP]
theorem mergeM_snoc (l : List (ByteArray × T)) (p : ByteArray × T) (o v : T) : ∀ a : T, T.mergeM (l ++ [p]) o v a = T.mergeP p o v (T.mergeM l o v a) := by
  induction l with
  | nil => intro a; rw [List.nil_append, T.mergeM, T.mergeM, T.mergeM]
  | cons q r ih => intro a; rw [List.cons_append, T.mergeM, T.mergeM, ih]
theorem mergeO_snoc (l : List (ByteArray × T)) (p : ByteArray × T) (now : T) : ∀ a : T, mergeO (l ++ [p]) now a = if getT now p.1 = none then T.cutP p (mergeO l now a) else mergeO l now a := by
  induction l with
  | nil => intro a; rw [List.nil_append, mergeO, mergeO, mergeO]
  | cons q r ih => intro a; rw [List.cons_append, mergeO, mergeO, ih]
theorem mergeM_look {o v : T} {m : List (ByteArray × T)} : ∀ {l : List (ByteArray × T)}, KS l → KS m → ∃ l', T.mergeM m o v (mkMap l) = mkMap l' ∧ KS l' ∧ l'.length ≤ l.length + m.length ∧ ∀ k, look l' k = match look m k with
    | none => look l k
    | some x => some (x.merge ((getT o k).getD T.zero) ((getT v k).getD T.zero)) := by
  induction m with
  | nil => intro l hl _; exact ⟨l, by rw [T.mergeM], hl, by simp, fun k => rfl⟩
  | cons p r ih =>
    intro l hl hm
    rw [T.mergeM, mergeP_eq, putT_mk hl]
    obtain ⟨l', e, hks, hle, hlk⟩ := ih (ins_KS hl p.1 _) hm.tail
    have := ins_length l p.1 (p.2.merge ((getT o p.1).getD T.zero) ((getT v p.1).getD T.zero))
    refine ⟨l', e, hks, by rw [List.length_cons]; omega, fun k => ?_⟩
    rw [hlk, look, look_ins _ _ _ hl]
    by_cases he : p.1 = k
    · rw [if_pos he, if_pos he, look_not fun q hq e => klt_ne (hm.head q hq) (he.trans e.symm), ← he]
    · rw [if_neg he, if_neg he]
theorem mergeO_look {now : T} {m : List (ByteArray × T)} : ∀ {l : List (ByteArray × T)}, KS l → KS m → ∃ l', mergeO m now (mkMap l) = mkMap l' ∧ KS l' ∧ l'.length ≤ l.length + m.length ∧ ∀ k, look l' k = if getT now k = none then (look l k).bind (fun z => cutl z (look m k)) else look l k := by
  induction m with
  | nil => intro l hl _; exact ⟨l, by rw [mergeO], hl, by simp, fun k => by
      split
      · cases look l k <;> rfl
      · rfl⟩
  | cons p r ih =>
    intro l hl hm
    rw [mergeO]
    by_cases h0 : getT now p.1 = none
    · rw [if_pos h0]
      obtain ⟨l1, e1, hks1, hle1, h1, h2⟩ := cutP_mk hl p
      rw [e1]
      obtain ⟨l', e, hks, hle, hlk⟩ := ih hks1 hm.tail
      refine ⟨l', e, hks, by rw [List.length_cons]; omega, fun k => ?_⟩
      rw [hlk, look]
      by_cases he : p.1 = k
      · subst he
        rw [if_pos h0, if_pos h0, if_pos rfl, h1, look_not fun q hq e2 => klt_ne (hm.head q hq) e2.symm]
        cases look l p.1 with
        | none => rfl
        | some z =>
          simp only [Option.bind_some]
          cases cutl z (some p.2) <;> rfl
      · rw [if_neg he, h2 k he]
    · rw [if_neg h0]
      obtain ⟨l', e, hks, hle, hlk⟩ := ih hl hm.tail
      refine ⟨l', e, hks, by rw [List.length_cons]; omega, fun k => ?_⟩
      rw [hlk, look]
      by_cases he : p.1 = k
      · subst he; rw [if_neg h0, if_neg h0]
      · rw [if_neg he]
/-- What stands under a key of what is merged. -/
def mrg3 (now old : Option T) (live : Option T) : Option T :=
  match now with
  | none => live.bind fun z => cutl z old
  | some x => some (x.merge (old.getD T.zero) (live.getD T.zero))
theorem merge_look {a b c : Nat} {t o v : T} (ht : Neat a t) (ho : Neat b o) (hv : Neat c v) (hm : t.map ≠ []) : ∃ l', t.merge o v = mkMap l' ∧ KS l' ∧ l'.length ≤ v.map.length + t.map.length + o.map.length ∧ ∀ k, look l' k = mrg3 (look t.map k) (look o.map k) (look v.map k) := by
  rw [merge_eq, if_neg hm, mapT_self hv.KS]
  obtain ⟨l1, e1, hks1, hle1, hlk1⟩ := mergeM_look (o := o) (v := v) hv.KS ht.KS
  rw [e1]
  obtain ⟨l', e, hks, hle, hlk⟩ := mergeO_look (now := t) hks1 ho.KS
  refine ⟨l', e, hks, by omega, fun k => ?_⟩
  rw [hlk, hlk1, getT_look ht, getT_look ho, getT_look hv]
  unfold mrg3
  cases look t.map k with
  | none => rfl
  | some x => rw [if_neg (by simp)]
theorem merge_neat {a b c : Nat} {t : T} (ht : Neat a t) : ∀ {o v : T}, Neat b o → Neat c v → Neat (a + b + c) (t.merge o v) := by
  induction t using T.ind' with
  | h t ihl ihm =>
    intro o v ho hv
    by_cases hm : t.map = []
    · rw [merge_eq, if_pos hm]; exact ht.mono (by omega)
    · obtain ⟨l', e, hks, hle, hlk⟩ := merge_look ht ho hv hm
      rw [e]
      have h1 := ht.len
      have h2 := ho.len
      have h3 := hv.len
      refine Neat.mkMap hks (by omega) fun p hp => ?_
      have hp2 := look_some hks hp
      rw [hlk] at hp2
      unfold mrg3 at hp2
      cases e1 : look t.map p.1 with
      | some x =>
        rw [e1] at hp2
        injection hp2 with hp2
        rw [← hp2]
        exact ⟨ht.keyl e1, ihm _ (look_mem e1) (ht.look e1) (ho.getD _) (hv.getD _)⟩
      | none =>
        rw [e1] at hp2
        simp only at hp2
        cases e2 : look v.map p.1 with
        | none => rw [e2] at hp2; cases hp2
        | some z =>
          rw [e2, Option.bind_some] at hp2
          refine ⟨hv.keyl e2, ?_⟩
          cases e3 : look o.map p.1 with
          | none => rw [e3, cutl] at hp2; injection hp2 with hp2; rw [← hp2]; exact (hv.look e2).mono (by omega)
          | some y => rw [e3] at hp2; exact (cutl_neat (cut_neat (ho.look e3) (hv.look e2)) hp2).mono (by omega)
end Go.Proofs.Ytmdihildjblgnaa

/- merge3.full, less and Cut. -/
namespace Go.Proofs.Ytmdihildjblgnaa
open Go.RowKit
attribute [local go_sem ↓] Go.wp_at_zero Go.wp_at_succ

theorem tfull {b : Bool} (t : T) (hb : decide (0 < t.map.length) = b) (v : Value) (w : World) (S : Nat → Prop) (h : RepT w S v t) : Calls Try.prog 103 #[v] w fun e w' => e = .returned (.bool b) ∧ Below w.heap.size w w' := by
  obtain ⟨la, lc, ma, mc, rfl, -⟩ := h.inv
  go_enter Try.func103, Try.ntmps103
  go_wp2_with fail
  go_ret
  exact ⟨by rw [← hb]; simp, by first | exact Below.refl _ _ | exact Below.new _ _⟩

/-- What less hands back: the value that came in, or a new one. -/
def LessPost (S : Nat → Prop) (w : World) (t : T) (e : Ending) (w' : World) : Prop := ∃ v, e = .returned v ∧ RepT w' (fun b => S b ∨ w.heap.size ≤ b) v t ∧ Below w.heap.size w w'

set_option maxRecDepth 100000 in
set_option maxHeartbeats 8000000 in
theorem tless {na : Nat} (hn1 : na ≤ 1000000) (x a : T) (key : ByteArray) (ha : Neat na a) (hkz : key.size ≤ 140737488351232)
    (hcut : ∀ z, getT a key = some z → ∀ (va vb : Value) (w : World) (S S' : Nat → Prop), RepT w S va z → RepT w S' vb x → Calls Try.prog 54 #[va, vb] w (NewPost w (x.cut z)))
    (la : Option Addr) (lc : Nat) (ma : Option Addr) (mc : Nat) (va : Value) (w : World) (S S' : Nat → Prop) (hra : RepT w S va a) (hrx : RepT w S' (.agg #[.int .i64 x.kind, .bool x.bool, .int .i64 x.int, .string x.str, .slice la x.list.length lc, .slice ma x.map.length mc]) x) :
    Calls Try.prog 104 #[va, .agg #[.string key, .int .i64 x.kind, .bool x.bool, .int .i64 x.int, .string x.str, .slice la x.list.length lc, .slice ma x.map.length mc]] w (LessPost S w (T.cutP (key, x) a)) := by
  obtain ⟨la0, lc0, ma0, mc0, rfl, -⟩ := hra.inv
  have HRA := Lib.hid (hra.mono (w' := w) (S' := fun b => S b ∧ b < w.heap.size) (fun _ h h2 => ⟨h, h2⟩) (fun _ _ _ _ => rfl))
  have HRX := Lib.hid hrx
  have hB1 : Blk (((w.alloc (.cells #[.int .i64 a.kind, .bool a.bool, .int .i64 a.int, .string a.str, .slice la0 a.list.length lc0, .slice ma0 a.map.length mc0] 25)).alloc (.cells #[.string key, .int .i64 x.kind, .bool x.bool, .int .i64 x.int, .string x.str, .slice la x.list.length lc, .slice ma x.map.length mc] 43)).alloc (.cells #[.int .i64 0, .bool false, .int .i64 0, .string ⟨#[]⟩, .slice none 0 0, .slice none 0 0] 25)) w.heap.size 25 #[.int .i64 a.kind, .bool a.bool, .int .i64 a.int, .string a.str, .slice la0 a.list.length lc0, .slice ma0 a.map.length mc0] := ((Blk.new _ _ _).alloc _).alloc _
  have hB2 : Blk (((w.alloc (.cells #[.int .i64 a.kind, .bool a.bool, .int .i64 a.int, .string a.str, .slice la0 a.list.length lc0, .slice ma0 a.map.length mc0] 25)).alloc (.cells #[.string key, .int .i64 x.kind, .bool x.bool, .int .i64 x.int, .string x.str, .slice la x.list.length lc, .slice ma x.map.length mc] 43)).alloc (.cells #[.int .i64 0, .bool false, .int .i64 0, .string ⟨#[]⟩, .slice none 0 0, .slice none 0 0] 25)) (w.heap.size + 1) 43 #[.string key, .int .i64 x.kind, .bool x.bool, .int .i64 x.int, .string x.str, .slice la x.list.length lc, .slice ma x.map.length mc] := (Blk.new_at _ _ _ (by simp)).alloc _
  have hB3 : Blk (((w.alloc (.cells #[.int .i64 a.kind, .bool a.bool, .int .i64 a.int, .string a.str, .slice la0 a.list.length lc0, .slice ma0 a.map.length mc0] 25)).alloc (.cells #[.string key, .int .i64 x.kind, .bool x.bool, .int .i64 x.int, .string x.str, .slice la x.list.length lc, .slice ma x.map.length mc] 43)).alloc (.cells #[.int .i64 0, .bool false, .int .i64 0, .string ⟨#[]⟩, .slice none 0 0, .slice none 0 0] 25)) (w.heap.size + 1 + 1) 25 #[.int .i64 0, .bool false, .int .i64 0, .string ⟨#[]⟩, .slice none 0 0, .slice none 0 0] := Blk.new_at _ _ _ (by simp)
  have hBW : Below w.heap.size w (((w.alloc (.cells #[.int .i64 a.kind, .bool a.bool, .int .i64 a.int, .string a.str, .slice la0 a.list.length lc0, .slice ma0 a.map.length mc0] 25)).alloc (.cells #[.string key, .int .i64 x.kind, .bool x.bool, .int .i64 x.int, .string x.str, .slice la x.list.length lc, .slice ma x.map.length mc] 43)).alloc (.cells #[.int .i64 0, .bool false, .int .i64 0, .string ⟨#[]⟩, .slice none 0 0, .slice none 0 0] 25)) := ((Below.new _ _).alloc (by simp) _).alloc (by simp; omega) _
  obtain ⟨W0, e0⟩ : ∃ W0, W0 = (((w.alloc (.cells #[.int .i64 a.kind, .bool a.bool, .int .i64 a.int, .string a.str, .slice la0 a.list.length lc0, .slice ma0 a.map.length mc0] 25)).alloc (.cells #[.string key, .int .i64 x.kind, .bool x.bool, .int .i64 x.int, .string x.str, .slice la x.list.length lc, .slice ma x.map.length mc] 43)).alloc (.cells #[.int .i64 0, .bool false, .int .i64 0, .string ⟨#[]⟩, .slice none 0 0, .slice none 0 0] 25)) := ⟨_, rfl⟩
  rw [← e0] at hB1 hB2 hB3 hBW
  have E0 := Lib.hid e0
  have HN := Lib.hid ha
  obtain ⟨b0, hb0⟩ : ∃ b, (getT a key).isSome = b := ⟨_, rfl⟩
  obtain ⟨z, hz⟩ : ∃ y, (getT a key).getD T.zero = y := ⟨_, rfl⟩
  have CG := Lib.hid (fun w2 v2 (h : RepT w2 (fun _ => True) v2 a) => tget_b hb0 hz v2 w2 _ h ha.KS)
  have HE := Lib.hid (show T.cutP (key, x) a = if b0 = true then (if (x.cut z).map = [] then dropT a key else putT a key (x.cut z)) else a from by
    rw [cutP_eq, ← hb0, ← hz]
    cases getT a key <;> rfl)
  have CC := Lib.hid (show b0 = true → ∀ (va vb : Value) (w : World) (S S' : Nat → Prop), RepT w S va z → RepT w S' vb x → Calls Try.prog 54 #[va, vb] w (NewPost w (x.cut z)) from fun h => by
    rw [← hb0] at h
    obtain ⟨y, hy⟩ := Option.isSome_iff_exists.1 h
    rw [← hz, hy]
    exact hcut y hy)
  have hlen := ha.len
  have L1 := Lib.hid hB1; have L2 := Lib.hid hB2; have L3 := Lib.hid hB3; have HW := Lib.hid hBW
  clear hra hrx ha hcut hb0 hz hB1 hB2 hB3 hBW e0
  generalize T.cutP (key, x) a = res at *
  go_enter Try.func104, Try.ntmps104
  go_wp2_with fail
  rw [← E0.out]
  have HA := Lib.hid ((HRA.out.weak (S' := fun _ => True) (fun _ _ _ => trivial)).keep HW.out); have HS := Lib.hid (HRA.out.keep HW.out); have HX := Lib.hid ((HRX.out.weak (S' := fun _ => True) (fun _ _ _ => trivial)).keep HW.out)
  have HW0 := HW; clear HW HRA HRX E0
  have k0_0 := L1.out.cell; have l0_0 := L1.out.lt
  have k0_1 := L2.out.cell; have l0_1 := L2.out.lt
  have k0_2 := L3.out.cell; have l0_2 := L3.out.lt
  refine (CG.out _ _ (HA.out)).mono ?_
  rintro e w1 ⟨v1, rfl, hr, hb⟩
  obtain ⟨qa1, qc1, qm1, qn1, rfl, -⟩ := hr.inv
  have N1 := Lib.hid (hr.any)
  clear hr
  have HD1 := Lib.hid (show Below W0.heap.size W0 w1 from hb)
  have L1_0 := Lib.hid (L1.out.keep HD1.out)
  have L1_1 := Lib.hid (L2.out.keep HD1.out)
  have L1_2 := Lib.hid (L3.out.keep HD1.out)
  have V1_a := Lib.hid (HA.out.keep HD1.out)
  have V1_x := Lib.hid (HX.out.keep HD1.out)
  have V1_S := Lib.hid (HS.out.keep HD1.out)
  have HW1 := Lib.hid (Below.next HW0.out HD1.out)
  clear k0_0 l0_0 k0_1 l0_1 k0_2 l0_2 hb HD1 L1 L2 L3 HA HX HS HW0
  have k1_0 := L1_0.out.cell
  have l1_0 := L1_0.out.lt
  have k1_1 := L1_1.out.cell
  have l1_1 := L1_1.out.lt
  have k1_2 := L1_2.out.cell
  have l1_2 := L1_2.out.lt
  cases b0
  · have zf := L1_2.out.frozen
    go_wp2_with fail
    exact ret_cell rfl rfl (((((((L1_2.out.set_ 0 _).set_ 1 _).set_ 2 _).set_ 3 _).set_ 4 _).set_ 5 _).alloc _) Try.underlying25 val_size rfl ⟨_, rfl, by rw [show res = a from by rw [HE.out]; simp]; exact (V1_S.out.mono (fun b h _ => .inl h.1) (fun b o h _ => World.cell?_of_block (w := w1) (set6_heap (o := 0) (show b ≠ w.heap.size + 1 + 1 by have := h.2; omega)))).keep (Below.new _ _), Below.next (set6_below (o := 0) HW1.out (by omega)) (Below.new _ _)⟩
  · have CC2 := Lib.hid (CC.out rfl)
    clear CC
    generalize x.cut z = lf at *
    go_wp2_with fail
    refine (CC2.out _ _ _ _ _ (N1.out.keep (by exact Below.new _ _)) (V1_x.out.keep (by exact Below.new _ _))).mono ?_
    rintro e w2 ⟨v2, rfl, hr, hb⟩
    obtain ⟨qa2, qc2, qm2, qn2, rfl, -⟩ := hr.inv
    have N2 := Lib.hid (hr.any)
    clear hr
    have HD2 := Lib.hid (show Below w1.heap.size w1 w2 from Below.next (Below.new _ _) hb)
    have L2_0 := Lib.hid (L1_0.out.keep HD2.out)
    have L2_1 := Lib.hid (L1_1.out.keep HD2.out)
    have L2_2 := Lib.hid (L1_2.out.keep HD2.out)
    have L2_3 := Lib.hid ((Blk.new w1 25 #[.int .i64 z.kind, .bool z.bool, .int .i64 z.int, .string z.str, .slice qa1 z.list.length qc1, .slice qm1 z.map.length qn1]).keep hb)
    have V2_a := Lib.hid (V1_a.out.keep HD2.out)
    have V2_x := Lib.hid (V1_x.out.keep HD2.out)
    have V2_S := Lib.hid (V1_S.out.keep HD2.out)
    have V2_z := Lib.hid (N1.out.keep HD2.out)
    have HW2 := Lib.hid (Below.next HW1.out HD2.out)
    clear k1_0 l1_0 k1_1 l1_1 k1_2 l1_2 hb HD2 L1_0 L1_1 L1_2 V1_a V1_x V1_S N1 HW1
    have k2_0 := L2_0.out.cell
    have l2_0 := L2_0.out.lt
    have k2_1 := L2_1.out.cell
    have l2_1 := L2_1.out.lt
    have k2_2 := L2_2.out.cell
    have l2_2 := L2_2.out.lt
    have k2_3 := L2_3.out.cell
    have l2_3 := L2_3.out.lt
    by_cases hm : lf.map = []
    case pos =>
      have CF := Lib.hid (fun w2 v2 (h : RepT w2 (fun _ => True) v2 lf) => tfull (b := false) lf (by simp [hm]) v2 w2 _ h)
      have HE2 := Lib.hid (show res = dropT a key from by rw [HE.out]; simp [hm])
      clear HE hm
      go_wp2_with fail
      refine (CF.out _ _ (N2.out.keep (by exact Below.new _ _))).mono ?_
      rintro e w3 ⟨rfl, hb⟩
      have HD3 := Lib.hid (show Below w2.heap.size w2 w3 from Below.next (Below.new _ _) hb)
      have L3_0 := Lib.hid (L2_0.out.keep HD3.out)
      have L3_1 := Lib.hid (L2_1.out.keep HD3.out)
      have L3_2 := Lib.hid (L2_2.out.keep HD3.out)
      have L3_3 := Lib.hid (L2_3.out.keep HD3.out)
      have L3_4 := Lib.hid ((Blk.new w2 25 #[.int .i64 lf.kind, .bool lf.bool, .int .i64 lf.int, .string lf.str, .slice qa2 lf.list.length qc2, .slice qm2 lf.map.length qn2]).keep hb)
      have V3_a := Lib.hid (V2_a.out.keep HD3.out)
      have V3_x := Lib.hid (V2_x.out.keep HD3.out)
      have V3_S := Lib.hid (V2_S.out.keep HD3.out)
      have V3_z := Lib.hid (V2_z.out.keep HD3.out)
      have V3_lf := Lib.hid (N2.out.keep HD3.out)
      have HW3 := Lib.hid (Below.next HW2.out HD3.out)
      clear k2_0 l2_0 k2_1 l2_1 k2_2 l2_2 k2_3 l2_3 hb HD3 L2_0 L2_1 L2_2 L2_3 V2_a V2_x V2_S V2_z N2 HW2
      have k3_0 := L3_0.out.cell
      have l3_0 := L3_0.out.lt
      have k3_1 := L3_1.out.cell
      have l3_1 := L3_1.out.lt
      have k3_2 := L3_2.out.cell
      have l3_2 := L3_2.out.lt
      have k3_3 := L3_3.out.cell
      have l3_3 := L3_3.out.lt
      have k3_4 := L3_4.out.cell
      have l3_4 := L3_4.out.lt
      go_wp2_with fail
      refine (tdrop a key _ _ _ (V3_a.out)).mono ?_
      rintro e w9 ⟨v9, rfl, hr, hb⟩
      obtain ⟨qa9, qc9, qm9, qn9, rfl, -⟩ := hr.inv
      have HR9 := Lib.hid hr; have M3 := Lib.hid (L3_2.out.keep hb); have HW9 := Lib.hid (Below.next HW3.out hb); have hsz := HW3.out.size; have hl3 := L3_2.out.lt
      clear hr hb k3_0 l3_0 k3_1 l3_1 k3_2 l3_2 k3_3 l3_3 k3_4 l3_4
      have zk := M3.out.cell; have zf := M3.out.frozen; have zl := M3.out.lt
      go_wp2_with fail
      exact ret_cell rfl rfl ((((((M3.out.set_ 0 _).set_ 1 _).set_ 2 _).set_ 3 _).set_ 4 _).set_ 5 _) Try.underlying25 val_size rfl ⟨_, rfl, by rw [HE2.out]; exact HR9.out.mono (fun b (h : _ ≤ b) _ => .inr (by omega)) (fun b o (h : _ ≤ b) _ => World.cell?_of_block (w := w9) (set6_heap (o := 0) (show b ≠ w.heap.size + 1 + 1 by omega))), set6_below (o := 0) HW9.out (by omega)⟩
    case neg =>
      have CF := Lib.hid (fun w2 v2 (h : RepT w2 (fun _ => True) v2 lf) => tfull (b := true) lf (by have := List.length_pos_iff.2 hm; simp; omega) v2 w2 _ h)
      have HE2 := Lib.hid (show res = putT a key lf from by rw [HE.out]; simp [hm])
      clear HE hm
      go_wp2_with fail
      refine (CF.out _ _ (N2.out.keep (by exact Below.new _ _))).mono ?_
      rintro e w3 ⟨rfl, hb⟩
      have HD3 := Lib.hid (show Below w2.heap.size w2 w3 from Below.next (Below.new _ _) hb)
      have L3_0 := Lib.hid (L2_0.out.keep HD3.out)
      have L3_1 := Lib.hid (L2_1.out.keep HD3.out)
      have L3_2 := Lib.hid (L2_2.out.keep HD3.out)
      have L3_3 := Lib.hid (L2_3.out.keep HD3.out)
      have L3_4 := Lib.hid ((Blk.new w2 25 #[.int .i64 lf.kind, .bool lf.bool, .int .i64 lf.int, .string lf.str, .slice qa2 lf.list.length qc2, .slice qm2 lf.map.length qn2]).keep hb)
      have V3_a := Lib.hid (V2_a.out.keep HD3.out)
      have V3_x := Lib.hid (V2_x.out.keep HD3.out)
      have V3_S := Lib.hid (V2_S.out.keep HD3.out)
      have V3_z := Lib.hid (V2_z.out.keep HD3.out)
      have V3_lf := Lib.hid (N2.out.keep HD3.out)
      have HW3 := Lib.hid (Below.next HW2.out HD3.out)
      clear k2_0 l2_0 k2_1 l2_1 k2_2 l2_2 k2_3 l2_3 hb HD3 L2_0 L2_1 L2_2 L2_3 V2_a V2_x V2_S V2_z N2 HW2
      have k3_0 := L3_0.out.cell
      have l3_0 := L3_0.out.lt
      have k3_1 := L3_1.out.cell
      have l3_1 := L3_1.out.lt
      have k3_2 := L3_2.out.cell
      have l3_2 := L3_2.out.lt
      have k3_3 := L3_3.out.cell
      have l3_3 := L3_3.out.lt
      have k3_4 := L3_4.out.cell
      have l3_4 := L3_4.out.lt
      go_wp2_with fail
      refine (tput a lf key _ _ _ _ _ (V3_a.out) (V3_lf.out) hkz (by omega)).mono ?_
      rintro e w9 ⟨v9, rfl, hr, hb⟩
      obtain ⟨qa9, qc9, qm9, qn9, rfl, -⟩ := hr.inv
      have HR9 := Lib.hid hr; have M3 := Lib.hid (L3_2.out.keep hb); have HW9 := Lib.hid (Below.next HW3.out hb); have hsz := HW3.out.size; have hl3 := L3_2.out.lt
      clear hr hb k3_0 l3_0 k3_1 l3_1 k3_2 l3_2 k3_3 l3_3 k3_4 l3_4
      have zk := M3.out.cell; have zf := M3.out.frozen; have zl := M3.out.lt
      go_wp2_with fail
      exact ret_cell rfl rfl ((((((M3.out.set_ 0 _).set_ 1 _).set_ 2 _).set_ 3 _).set_ 4 _).set_ 5 _) Try.underlying25 val_size rfl ⟨_, rfl, by rw [HE2.out]; exact HR9.out.mono (fun b (h : _ ≤ b) _ => .inr (by omega)) (fun b o (h : _ ≤ b) _ => World.cell?_of_block (w := w9) (set6_heap (o := 0) (show b ≠ w.heap.size + 1 + 1 by omega))), set6_below (o := 0) HW9.out (by omega)⟩

theorem cutM_neat {n k : Nat} {m : List (ByteArray × T)} {a : T} (hm : ∀ p ∈ m, Neat k p.2) (hks : KS m) (ha : Neat n a) (h5 : a.kind = 5) : Neat n (T.cutM m a) ∧ (T.cutM m a).kind = 5 := by
  have e := cutM_mk (m := m) ha.KS hks
  rw [← ha.map h5] at e
  rw [e]
  refine ⟨Neat.mkMap (fmap_KS ha.KS) (Nat.le_trans (fmap_len _ _) ha.len) fun p hp => ?_, rfl⟩
  obtain ⟨z, hz, e2⟩ := fmap_mem hp
  refine ⟨ha.key (p.1, z) hz, ?_⟩
  cases el : look m p.1 with
  | none => rw [el, cutl] at e2; injection e2 with e2; rw [← e2]; exact ha.mem (p.1, z) hz
  | some x => rw [el] at e2; exact cutl_neat (cut_neat (hm _ (look_mem el)) (ha.mem (p.1, z) hz)) e2
theorem OutInv.put' {w wr w3 : World} {B G R : Nat} {M M' : T} {la la' : Option Addr} {lc lc' : Nat} {ma ma' : Option Addr} {mc mc' : Nat} (h : OutInv w wr B G R M la lc ma mc) (hb : Below wr.heap.size wr w3) (hr : RepT w3 (fun b => (B ≤ b ∧ b ≠ G) ∨ wr.heap.size ≤ b) (.agg #[.int .i64 M'.kind, .bool M'.bool, .int .i64 M'.int, .string M'.str, .slice la' M'.list.length lc', .slice ma' M'.map.length mc']) M') :
    OutInv w (set6 w3 G 0 (.int .i64 M'.kind) (.bool M'.bool) (.int .i64 M'.int) (.string M'.str) (.slice la' M'.list.length lc') (.slice ma' M'.map.length mc')) B G R M' la' lc' ma' mc' := by
  have k := h.keep hb
  have h1 := h.box.lt
  have h2 := h.mid
  have h3 := h.top
  have h4 := h.low
  refine ⟨(set6_heap (by omega)).trans k.res, (((((k.box.set_ 0 _).set_ 1 _).set_ 2 _).set_ 3 _).set_ 4 _).set_ 5 _, ?_, set6_below k.bel (by omega), h.low, h.mid, h.top⟩
  exact hr.mono (fun b hb _ => by rcases hb with hb | hb; exact hb; exact ⟨by omega, by omega⟩) fun b o hb _ => World.cell?_of_block (w := w3) (set6_heap (show b ≠ G by rcases hb with hb | hb; exact hb.2; omega))

set_option maxRecDepth 100000 in
set_option maxHeartbeats 8000000 in
theorem tcut {na nb : Nat} (hn1 : na ≤ 1000000) (hn2 : nb ≤ 1000000) (t : T) : ∀ (a : T) (_ : Neat na a) (_ : Neat nb t) (va v : Value) (w : World) (S S' : Nat → Prop), RepT w S va a → RepT w S' v t → Calls Try.prog 54 #[va, v] w (NewPost w (t.cut a)) := by
  induction t using T.ind' with
  | h t ihl ihm =>
  intro a ha hn va v w S S' hra h
  clear ihl
  obtain ⟨la, lc, ma, mc, rfl, hp⟩ := h.inv
  obtain ⟨-, -, -, -, hm, -, -, -, -, -, hM⟩ := hp
  obtain ⟨la0, lc0, ma0, mc0, rfl, -⟩ := hra.inv
  have HRA := Lib.hid hra
  have HRB := Lib.hid h
  have hB1 : Blk (((w.alloc (.cells #[.int .i64 a.kind, .bool a.bool, .int .i64 a.int, .string a.str, .slice la0 a.list.length lc0, .slice ma0 a.map.length mc0] 25)).alloc (.cells #[.int .i64 t.kind, .bool t.bool, .int .i64 t.int, .string t.str, .slice la t.list.length lc, .slice ma t.map.length mc] 25)).alloc (.cells #[.int .i64 0, .bool false, .int .i64 0, .string ⟨#[]⟩, .slice none 0 0, .slice none 0 0] 25)) w.heap.size 25 #[.int .i64 a.kind, .bool a.bool, .int .i64 a.int, .string a.str, .slice la0 a.list.length lc0, .slice ma0 a.map.length mc0] := ((Blk.new _ _ _).alloc _).alloc _
  have hB2 : Blk (((w.alloc (.cells #[.int .i64 a.kind, .bool a.bool, .int .i64 a.int, .string a.str, .slice la0 a.list.length lc0, .slice ma0 a.map.length mc0] 25)).alloc (.cells #[.int .i64 t.kind, .bool t.bool, .int .i64 t.int, .string t.str, .slice la t.list.length lc, .slice ma t.map.length mc] 25)).alloc (.cells #[.int .i64 0, .bool false, .int .i64 0, .string ⟨#[]⟩, .slice none 0 0, .slice none 0 0] 25)) (w.heap.size + 1) 25 #[.int .i64 t.kind, .bool t.bool, .int .i64 t.int, .string t.str, .slice la t.list.length lc, .slice ma t.map.length mc] := (Blk.new_at _ _ _ (by simp)).alloc _
  have hB3 : Blk (((w.alloc (.cells #[.int .i64 a.kind, .bool a.bool, .int .i64 a.int, .string a.str, .slice la0 a.list.length lc0, .slice ma0 a.map.length mc0] 25)).alloc (.cells #[.int .i64 t.kind, .bool t.bool, .int .i64 t.int, .string t.str, .slice la t.list.length lc, .slice ma t.map.length mc] 25)).alloc (.cells #[.int .i64 0, .bool false, .int .i64 0, .string ⟨#[]⟩, .slice none 0 0, .slice none 0 0] 25)) (w.heap.size + 1 + 1) 25 #[.int .i64 0, .bool false, .int .i64 0, .string ⟨#[]⟩, .slice none 0 0, .slice none 0 0] := Blk.new_at _ _ _ (by simp)
  have hBW : Below w.heap.size w (((w.alloc (.cells #[.int .i64 a.kind, .bool a.bool, .int .i64 a.int, .string a.str, .slice la0 a.list.length lc0, .slice ma0 a.map.length mc0] 25)).alloc (.cells #[.int .i64 t.kind, .bool t.bool, .int .i64 t.int, .string t.str, .slice la t.list.length lc, .slice ma t.map.length mc] 25)).alloc (.cells #[.int .i64 0, .bool false, .int .i64 0, .string ⟨#[]⟩, .slice none 0 0, .slice none 0 0] 25)) := ((Below.new _ _).alloc (by simp) _).alloc (by simp; omega) _
  obtain ⟨W0, e0⟩ : ∃ W0, W0 = (((w.alloc (.cells #[.int .i64 a.kind, .bool a.bool, .int .i64 a.int, .string a.str, .slice la0 a.list.length lc0, .slice ma0 a.map.length mc0] 25)).alloc (.cells #[.int .i64 t.kind, .bool t.bool, .int .i64 t.int, .string t.str, .slice la t.list.length lc, .slice ma t.map.length mc] 25)).alloc (.cells #[.int .i64 0, .bool false, .int .i64 0, .string ⟨#[]⟩, .slice none 0 0, .slice none 0 0] 25)) := ⟨_, rfl⟩
  rw [← e0] at hB1 hB2 hB3 hBW
  have hs0 : W0.heap.size = w.heap.size + 3 := by rw [e0]; simp
  have E0 := Lib.hid e0
  have L1 := Lib.hid hB1; have L2 := Lib.hid hB2; have L3 := Lib.hid hB3; have HW := Lib.hid hBW
  have HA := Lib.hid ((hra.weak (S' := fun _ => True) (fun _ _ _ => trivial)).keep hBW)
  have HT := Lib.hid ((h.weak (S' := fun _ => True) (fun _ _ _ => trivial)).keep hBW)
  by_cases h0 : t.map = [] ∨ a.kind ≠ 5
  · have HE := Lib.hid (cut_none h0)
    obtain ⟨fb, hfb, hg⟩ : ∃ fb : Bool, decide (0 < t.map.length) = fb ∧ (fb = false ∨ fb = true ∧ (a.kind != 5) = true) := by
      by_cases hm0 : t.map = []
      · exact ⟨false, by simp [hm0], .inl rfl⟩
      · exact ⟨true, by have := List.length_pos_iff.2 hm0; simp; omega, .inr ⟨rfl, by rcases h0 with h0 | h0; exact absurd h0 hm0; exact bne_iff_ne.2 h0⟩⟩
    have CF := Lib.hid (fun w2 v2 (h : RepT w2 (fun _ => True) v2 t) => tfull t hfb v2 w2 _ h)
    clear h0 h hM hm ihm hn ha hra hB1 hB2 hB3 hBW e0 hfb HRA HRB
    go_enter Try.func54, Try.ntmps54
    go_wp2_with fail
    rw [← E0.out]
    refine (CF.out _ _ HT.out).mono ?_
    rintro e w1 ⟨rfl, hb1⟩
    have M1 := Lib.hid (L1.out.keep hb1); have M3 := Lib.hid (L3.out.keep hb1); have HW1 := Lib.hid (Below.next HW.out hb1)
    have s1 := hb1.size
    clear hb1 L1 L2 L3 HW HA HT E0
    have k1 := M1.out.cell; have l1 := M1.out.lt
    rcases hg with rfl | ⟨rfl, hga⟩
    all_goals
      go_wp2_with fail
      refine (tnull _).mono ?_
      rintro e w2 ⟨v2, rfl, hr, hb⟩
      obtain ⟨la1, lc1, ma1, mc1, rfl, -⟩ := hr.inv
      have HR := Lib.hid hr; have N3 := Lib.hid (M3.out.keep hb); have HW2 := Lib.hid (Below.next HW1.out hb)
      have hl3 := M3.out.lt
      clear hr hb k1 l1
      have zk := N3.out.cell; have zf := N3.out.frozen; have zl := N3.out.lt
      go_wp2_with fail
      exact ret_cell rfl rfl ((((((N3.out.set_ 0 _).set_ 1 _).set_ 2 _).set_ 3 _).set_ 4 _).set_ 5 _) Try.underlying25 val_size rfl ⟨_, rfl, by rw [HE.out]; exact HR.out.mono (fun b (h : _ ≤ b) _ => by show w.heap.size ≤ b; omega) (fun b o (h : _ ≤ b) _ => World.cell?_of_block (w := w2) (set6_heap (o := 0) (show b ≠ w.heap.size + 1 + 1 by omega))), set6_below (o := 0) HW2.out (by omega)⟩
  · have hm0 : t.map ≠ [] := fun e => h0 (.inl e)
    have h5 : a.kind = 5 := Classical.byContradiction fun e => h0 (.inr e)
    have hga : (a.kind != 5) = false := by rw [h5]; rfl
    have hpos := List.length_pos_iff.2 hm0
    have CF := Lib.hid (fun w2 v2 (h : RepT w2 (fun _ => True) v2 t) => tfull (b := true) t (by simp; omega) v2 w2 _ h)
    have HE := Lib.hid (show t.cut a = if (T.cutM t.map a).map = [] then T.zero else T.cutM t.map a from by rw [cut_eq, if_neg h0])
    have HNE := Lib.hid (fun q => cutM_neat (m := t.map.take q) (fun p hp => hn.mem p (List.mem_of_mem_take hp)) (hn.KS.take q) ha h5)
    have HIH := Lib.hid (fun p hp z hz va vb w S S' => ihm p hp z hz (hn.mem p hp) va vb w S S')
    have HM := Lib.hid (hM.keep hBW)
    have hml := hn.len
    have hmz : ∀ i (h : i < t.map.length), t.map[i].1.size ≤ 140737488351232 := fun i hi => by
      obtain ⟨_, _, _, _, _, hz, _⟩ := hM i hi
      exact hz
    clear h0 h hM hm ihm hn ha hra hB1 hB2 hB3 hBW e0 h5 hm0 hpos HRA HRB
    go_enter Try.func54, Try.ntmps54
    go_wp2_with fail
    rw [← E0.out]
    refine (CF.out _ _ HT.out).mono ?_
    rintro e w1 ⟨rfl, hb1⟩
    have M1 := Lib.hid (L1.out.keep hb1); have M2 := Lib.hid (L2.out.keep hb1); have M3 := Lib.hid (L3.out.keep hb1); have HW1 := Lib.hid (Below.next HW.out hb1); have HA1 := Lib.hid (HA.out.keep hb1)
    have HM1 := Lib.hid (HM.out.keep hb1)
    have s1 := hb1.size
    clear hb1 L1 L2 L3 HW HA HT HM E0
    have k1 := M1.out.cell; have l1 := M1.out.lt
    go_wp2_with fail
    refine (clone_any a _ _ _ HA1.out).mono ?_
    rintro e w2 ⟨v2, rfl, hr1, hb1⟩
    obtain ⟨la1, lc1, ma1, mc1, rfl, -⟩ := hr1.inv
    have N2 := Lib.hid (M2.out.keep hb1)
    have HO := Lib.hid (OutInv.start (B := w.heap.size + 3) (R := w.heap.size + 1 + 1) HW1.out M3.out (by omega) (by omega) (by omega) hb1 hr1)
    have HM2 := Lib.hid (HM1.out.keep hb1)
    clear hb1 hr1 k1 l1 HM1
    have k2 := N2.out.cell; have l2 := N2.out.lt
    go_wp2_with fail
    generalize hmm : t.map = m at *
    clear hmm
    go_loopw [22] (fun x wr => ∃ (q : Nat) (M : T) (la2 : Option Addr) (lc2 : Nat) (ma2 : Option Addr) (mc2 : Nat), q ≤ m.length ∧ x = .int .i64 q ∧ Hid (M = T.cutM (m.take q) a) ∧ Below w2.heap.size w2 wr ∧ OutInv w wr (w.heap.size + 3) w2.heap.size (w.heap.size + 1 + 1) M la2 lc2 ma2 mc2) (fun x _ => m.length - (intOf x).toNat)
    case atStart => exact ⟨0, a, _, _, _, _, Nat.zero_le _, rfl, by show _ = _; rw [List.take_zero, T.cutM], Below.new _ _, HO.out⟩
    case round =>
      obtain ⟨q, M, la2, lc2, ma2, mc2, hq, rfl, hM, hbl, ho⟩ := hrel
      clear k2 l2 HO
      have HO := Lib.hid ho
      have HBL := Lib.hid hbl
      have HMR := Lib.hid (HM2.out.keep hbl)
      have k1 := ho.box.cell
      have l1 := ho.box.lt
      clear hbl ho
      by_cases hlt : q < m.length
      · obtain ⟨b, o, la3, lc3, ma3, mc3, rfl, -, hblk, hkz, ⟨c0, c1, c2, c3, c4, c5, c6⟩, hr⟩ := HMR.out.at_ hlt
        have HR := Lib.hid hr
        have hMn : Neat na M := by rw [hM.out]; exact (HNE.out q).1
        have HNX := Lib.hid (show T.cutP (m[q].1, m[q].2) M = T.cutM (m.take (q + 1)) a from by rw [List.take_succ_eq_append_getElem hlt, cutM_snoc, ← hM.out])
        have HLS := Lib.hid (fun la lc ma mc va w2 S2 S3 => tless hn1 m[q].2 M m[q].1 hMn hkz (fun z hz va vb w S S' => HIH.out m[q] (List.getElem_mem hlt) z (hMn.got hz) va vb w S S') la lc ma mc va w2 S2 S3)
        clear hr hMn hM
        generalize m[q].1 = key at *
        generalize m[q].2 = x at *
        have hgq : Below wr.heap.size wr (wr.alloc (.cells #[.string key, .int .i64 x.kind, .bool x.bool, .int .i64 x.int, .string x.str, .slice la3 x.list.length lc3, .slice ma3 x.map.length mc3] 43)) := Below.new _ _
        have HPQ := Lib.hid (HO.out.keep hgq)
        have HRQ := Lib.hid (HR.out.keep hgq)
        have HGQ := Lib.hid hgq
        clear hgq
        go_wp2_with fail
        refine (HLS.out la3 lc3 ma3 mc3 _ _ _ _ HPQ.out.rep HRQ.out).mono ?_
        rintro e w3 ⟨v3, rfl, hr3, hb3⟩
        obtain ⟨la5, lc5, ma5, mc5, rfl, -⟩ := hr3.inv
        have k3 := (HPQ.out.keep hb3).box.cell
        have z3 := (HPQ.out.keep hb3).box.frozen
        have l3 := (HPQ.out.keep hb3).box.lt
        have hlG := HPQ.out.box.lt
        have hbl2 := Below.next (Below.next HBL.out HGQ.out) hb3
        have HPT := Lib.hid (HPQ.out.put' hb3 hr3)
        have HBL2 := Lib.hid (set6_below (o := 0) (c0 := .int .i64 (T.cutP (key, x) M).kind) (c1 := .bool (T.cutP (key, x) M).bool) (c2 := .int .i64 (T.cutP (key, x) M).int) (c3 := .string (T.cutP (key, x) M).str) (c4 := .slice la5 (T.cutP (key, x) M).list.length lc5) (c5 := .slice ma5 (T.cutP (key, x) M).map.length mc5) hbl2 (g := w2.heap.size) (Nat.le_refl _))
        clear hb3 hr3 hbl2 k1 l1
        go_wp2_with fail
        go_roundw
        case rel => exact ⟨q + 1, T.cutP (key, x) M, _, _, _, _, by omega, by go_num, HNX, HBL2.out, HPT.out⟩
        case measure => simp [intOf]; omega
      · obtain rfl : q = m.length := by omega
        rw [List.take_length] at hM
        have HE2 := Lib.hid (show t.cut a = if M.map = [] then T.zero else M from by rw [HE.out, ← hM.out])
        generalize t.cut a = res at *
        clear HE
        by_cases hz : M.map = []
        case pos =>
          have CF2 := Lib.hid (fun w2 v2 (h : RepT w2 (fun _ => True) v2 M) => tfull (b := false) M (by simp [hz]) v2 w2 _ h)
          have HE3 := Lib.hid (show res = T.zero from by rw [HE2.out, if_pos hz])
          clear hz HE2 hM
          go_wp2_with fail
          refine (CF2.out _ _ HO.out.any).mono ?_
          rintro e w3 ⟨rfl, hb3⟩
          have HP := Lib.hid (HO.out.keep hb3)
          have s3 := hb3.size
          clear hb3 k1 l1
          go_wp2_with fail
          refine (tnull _).mono ?_
          rintro e w4 ⟨v4, rfl, hr, hb⟩
          obtain ⟨la5, lc5, ma5, mc5, rfl, -⟩ := hr.inv
          have HR := Lib.hid hr; have N3 := Lib.hid (HP.out.keep hb)
          have hl3 := HP.out.res.lt
          have hlw := HP.out.bel.size
          clear hr hb
          have zk := N3.out.res.cell; have zf := N3.out.res.frozen; have zl := N3.out.res.lt
          go_wp2_with fail
          exact ret_cell rfl rfl ((((((N3.out.res.set_ 0 _).set_ 1 _).set_ 2 _).set_ 3 _).set_ 4 _).set_ 5 _) Try.underlying25 val_size rfl ⟨_, rfl, by rw [HE3.out]; exact HR.out.mono (fun b (h : _ ≤ b) _ => by show w.heap.size ≤ b; omega) (fun b o (h : _ ≤ b) _ => World.cell?_of_block (w := w4) (set6_heap (o := 0) (show b ≠ w.heap.size + 1 + 1 by omega))), set6_below (o := 0) N3.out.bel (by omega)⟩
        case neg =>
          have hz2 := List.length_pos_iff.2 hz
          have CF2 := Lib.hid (fun w2 v2 (h : RepT w2 (fun _ => True) v2 M) => tfull (b := true) M (by simp; omega) v2 w2 _ h)
          have HE3 := Lib.hid (show res = M from by rw [HE2.out, if_neg hz])
          clear hz HE2 hM hz2
          go_wp2_with fail
          refine (CF2.out _ _ HO.out.any).mono ?_
          rintro e w3 ⟨rfl, hb3⟩
          have HP := Lib.hid (HO.out.keep hb3)
          clear hb3 k1 l1
          have k1 := HP.out.box.cell; have l1 := HP.out.box.lt
          have hk0 := HP.out.res.cell
          have hf0 := HP.out.res.frozen
          have hl0 := HP.out.res.lt
          go_wp2_with fail
          obtain ⟨d1, d2⟩ := HP.out.done
          exact ret_cell rfl rfl d1 Try.underlying25 val_size rfl (by rw [HE3.out]; exact d2)
end Go.Proofs.Ytmdihildjblgnaa

/- merge3.Merge. -/
namespace Go.Proofs.Ytmdihildjblgnaa
open Go.RowKit
attribute [local go_sem ↓] Go.wp_at_zero Go.wp_at_succ

theorem blk_six {w : World} {g G : Nat} {ty : TypeId} {cs : Array Value} {c0 c1 c2 c3 c4 c5 : Value} (h : Blk w g ty cs) (hg : g ≠ G) : Blk (set6 w G 0 c0 c1 c2 c3 c4 c5) g ty cs := (set6_heap hg).trans h
theorem cutP_neat {n k : Nat} {p : ByteArray × T} {a : T} (ha : Neat n a) (hp : Neat k p.2) : Neat n (T.cutP p a) := by
  rw [cutP_eq]
  cases e : getT a p.1 with
  | none => exact ha
  | some z =>
    simp only
    split
    · exact dropT_neat ha _
    · exact putT_neat_same ha e (cut_neat hp (ha.got e))
theorem mergeO_neat {n k : Nat} {now : T} : ∀ {l : List (ByteArray × T)} {a : T}, (∀ p ∈ l, Neat k p.2) → Neat n a → Neat n (mergeO l now a)
  | [], a, _, ha => ha
  | p :: r, a, hl, ha => by
    rw [mergeO]
    refine mergeO_neat (fun q hq => hl q (by simp [hq])) ?_
    split
    · exact cutP_neat ha (hl p (by simp))
    · exact ha
theorem mergeM_neat {a b c : Nat} {t o v : T} (ht : Neat a t) (ho : Neat b o) (hv : Neat c v) : ∀ q, q ≤ t.map.length → Neat (a + b + c + q) (T.mergeM (t.map.take q) o v (mkMap (mapT v.map))) := by
  intro q
  induction q with
  | zero =>
    intro _
    rw [List.take_zero, T.mergeM, mapT_self hv.KS]
    exact Neat.mkMap hv.KS (by have := hv.len; omega) fun p hp => ⟨hv.key p hp, (hv.mem p hp).mono (by omega)⟩
  | succ q ih =>
    intro hq
    rw [List.take_succ_eq_append_getElem hq, mergeM_snoc, mergeP_eq]
    have hm := List.getElem_mem hq
    exact putT_neat (ih (by omega)) (ht.key _ hm) ((merge_neat (ht.mem _ hm) (ho.get _) (hv.get _)).mono (by omega)) (by omega)

set_option maxRecDepth 100000 in
set_option maxHeartbeats 16000000 in
theorem tmerge {na nb nc : Nat} (hn1 : na ≤ 100000) (hn2 : nb ≤ 100000) (hn3 : nc ≤ 100000) (t : T) : ∀ (o v : T) (_ : Neat na t) (_ : Neat nb o) (_ : Neat nc v) (vo vv vt : Value) (w : World) (S1 S2 S3 : Nat → Prop), RepT w S1 vo o → RepT w S2 vv v → RepT w S3 vt t → Calls Try.prog 81 #[vo, vv, vt] w (NewPost w (t.merge o v)) := by
  induction t using T.ind' with
  | h t ihl ihm =>
  intro o v ht ho hv vo vv vt w S1 S2 S3 hro hrv hrt
  clear ihl
  obtain ⟨la, lc, ma, mc, rfl, hpo⟩ := hro.inv
  obtain ⟨la2, lc2, ma2, mc2, rfl, hpv⟩ := hrv.inv
  obtain ⟨la3, lc3, ma3, mc3, rfl, hpt⟩ := hrt.inv
  obtain ⟨-, -, -, -, -, -, -, -, -, -, hMo⟩ := hpo
  obtain ⟨-, -, -, -, hv104, -, -, -, -, -, hMv⟩ := hpv
  obtain ⟨-, -, -, -, -, -, -, -, -, -, hMt⟩ := hpt
  have hB1 : Blk ((((w.alloc (.cells #[.int .i64 o.kind, .bool o.bool, .int .i64 o.int, .string o.str, .slice la o.list.length lc, .slice ma o.map.length mc] 25)).alloc (.cells #[.int .i64 v.kind, .bool v.bool, .int .i64 v.int, .string v.str, .slice la2 v.list.length lc2, .slice ma2 v.map.length mc2] 25)).alloc (.cells #[.int .i64 t.kind, .bool t.bool, .int .i64 t.int, .string t.str, .slice la3 t.list.length lc3, .slice ma3 t.map.length mc3] 25)).alloc (.cells #[.int .i64 0, .bool false, .int .i64 0, .string ⟨#[]⟩, .slice none 0 0, .slice none 0 0] 25)) (w.heap.size) 25 #[.int .i64 o.kind, .bool o.bool, .int .i64 o.int, .string o.str, .slice la o.list.length lc, .slice ma o.map.length mc] := ((((Blk.new _ _ _).alloc _).alloc _).alloc _)
  have hB2 : Blk ((((w.alloc (.cells #[.int .i64 o.kind, .bool o.bool, .int .i64 o.int, .string o.str, .slice la o.list.length lc, .slice ma o.map.length mc] 25)).alloc (.cells #[.int .i64 v.kind, .bool v.bool, .int .i64 v.int, .string v.str, .slice la2 v.list.length lc2, .slice ma2 v.map.length mc2] 25)).alloc (.cells #[.int .i64 t.kind, .bool t.bool, .int .i64 t.int, .string t.str, .slice la3 t.list.length lc3, .slice ma3 t.map.length mc3] 25)).alloc (.cells #[.int .i64 0, .bool false, .int .i64 0, .string ⟨#[]⟩, .slice none 0 0, .slice none 0 0] 25)) (w.heap.size + 1) 25 #[.int .i64 v.kind, .bool v.bool, .int .i64 v.int, .string v.str, .slice la2 v.list.length lc2, .slice ma2 v.map.length mc2] := (((Blk.new_at _ _ _ (by simp)).alloc _).alloc _)
  have hB3 : Blk ((((w.alloc (.cells #[.int .i64 o.kind, .bool o.bool, .int .i64 o.int, .string o.str, .slice la o.list.length lc, .slice ma o.map.length mc] 25)).alloc (.cells #[.int .i64 v.kind, .bool v.bool, .int .i64 v.int, .string v.str, .slice la2 v.list.length lc2, .slice ma2 v.map.length mc2] 25)).alloc (.cells #[.int .i64 t.kind, .bool t.bool, .int .i64 t.int, .string t.str, .slice la3 t.list.length lc3, .slice ma3 t.map.length mc3] 25)).alloc (.cells #[.int .i64 0, .bool false, .int .i64 0, .string ⟨#[]⟩, .slice none 0 0, .slice none 0 0] 25)) (w.heap.size + 1 + 1) 25 #[.int .i64 t.kind, .bool t.bool, .int .i64 t.int, .string t.str, .slice la3 t.list.length lc3, .slice ma3 t.map.length mc3] := ((Blk.new_at _ _ _ (by simp)).alloc _)
  have hB4 : Blk ((((w.alloc (.cells #[.int .i64 o.kind, .bool o.bool, .int .i64 o.int, .string o.str, .slice la o.list.length lc, .slice ma o.map.length mc] 25)).alloc (.cells #[.int .i64 v.kind, .bool v.bool, .int .i64 v.int, .string v.str, .slice la2 v.list.length lc2, .slice ma2 v.map.length mc2] 25)).alloc (.cells #[.int .i64 t.kind, .bool t.bool, .int .i64 t.int, .string t.str, .slice la3 t.list.length lc3, .slice ma3 t.map.length mc3] 25)).alloc (.cells #[.int .i64 0, .bool false, .int .i64 0, .string ⟨#[]⟩, .slice none 0 0, .slice none 0 0] 25)) (w.heap.size + 1 + 1 + 1) 25 #[.int .i64 0, .bool false, .int .i64 0, .string ⟨#[]⟩, .slice none 0 0, .slice none 0 0] := (Blk.new_at _ _ _ (by simp))
  have hBW : Below w.heap.size w ((((w.alloc (.cells #[.int .i64 o.kind, .bool o.bool, .int .i64 o.int, .string o.str, .slice la o.list.length lc, .slice ma o.map.length mc] 25)).alloc (.cells #[.int .i64 v.kind, .bool v.bool, .int .i64 v.int, .string v.str, .slice la2 v.list.length lc2, .slice ma2 v.map.length mc2] 25)).alloc (.cells #[.int .i64 t.kind, .bool t.bool, .int .i64 t.int, .string t.str, .slice la3 t.list.length lc3, .slice ma3 t.map.length mc3] 25)).alloc (.cells #[.int .i64 0, .bool false, .int .i64 0, .string ⟨#[]⟩, .slice none 0 0, .slice none 0 0] 25)) := (((Below.new _ _).alloc (by simp) _).alloc (by simp; omega) _).alloc (by simp; omega) _
  obtain ⟨W0, e0⟩ : ∃ W0, W0 = ((((w.alloc (.cells #[.int .i64 o.kind, .bool o.bool, .int .i64 o.int, .string o.str, .slice la o.list.length lc, .slice ma o.map.length mc] 25)).alloc (.cells #[.int .i64 v.kind, .bool v.bool, .int .i64 v.int, .string v.str, .slice la2 v.list.length lc2, .slice ma2 v.map.length mc2] 25)).alloc (.cells #[.int .i64 t.kind, .bool t.bool, .int .i64 t.int, .string t.str, .slice la3 t.list.length lc3, .slice ma3 t.map.length mc3] 25)).alloc (.cells #[.int .i64 0, .bool false, .int .i64 0, .string ⟨#[]⟩, .slice none 0 0, .slice none 0 0] 25)) := ⟨_, rfl⟩
  rw [← e0] at hB1 hB2 hB3 hB4 hBW
  have hs0 : W0.heap.size = w.heap.size + 4 := by rw [e0]; simp
  have E0 := Lib.hid e0
  have L1 := Lib.hid hB1; have L2 := Lib.hid hB2; have L3 := Lib.hid hB3; have L4 := Lib.hid hB4; have HW0 := Lib.hid hBW
  have HO0 := Lib.hid ((hro.weak (S' := fun _ => True) (fun _ _ _ => trivial)).keep hBW); have HV0 := Lib.hid ((hrv.weak (S' := fun _ => True) (fun _ _ _ => trivial)).keep hBW); have HT0 := Lib.hid ((hrt.weak (S' := fun _ => True) (fun _ _ _ => trivial)).keep hBW)
  have HMO := Lib.hid (hMo.keep hBW); have HMV := Lib.hid (hMv.keep hBW); have HMT := Lib.hid (hMt.keep hBW)
  have HKO := Lib.hid ho.KS; have HKV := Lib.hid hv.KS; have HKT := Lib.hid ht.KS
  have HNM := Lib.hid (mergeM_neat ht ho hv); have HNO := Lib.hid (fun (l : List (ByteArray × T)) (M : T) (n : Nat) (hl : ∀ p ∈ l, p ∈ o.map) (hM : Neat n M) => mergeO_neat (k := nb) (now := t) (fun p hp => ho.mem p (hl p hp)) hM)
  have HMEM := Lib.hid (fun p hp => ho.mem p hp)
  have hlt0 := ht.len; have hlo0 := ho.len
  have HIH := Lib.hid (fun p hp (a b : T) (ha : Neat nb a) (hb : Neat nc b) => ihm p hp a b (ht.mem p hp) ha hb)
  have HGO := Lib.hid (fun k => ho.get k); have HGV := Lib.hid (fun k => hv.get k)
  have HE := Lib.hid (merge_eq t o v)
  obtain ⟨res, hres⟩ : ∃ r, r = t.merge o v := ⟨_, rfl⟩
  rw [← hres] at HE ⊢
  clear hro hrv hrt hMo hMv hMt hB1 hB2 hB3 hB4 hBW e0 ihm ht ho hv hres
  go_enter Try.func81, Try.ntmps81
  go_wp2_with fail
  rw [← E0.out]
  have k0_0 := L1.out.cell; have l0_0 := L1.out.lt
  have k0_1 := L2.out.cell; have l0_1 := L2.out.lt
  have k0_2 := L3.out.cell; have l0_2 := L3.out.lt
  have k0_3 := L4.out.cell; have l0_3 := L4.out.lt
  by_cases hm0 : t.map = []
  case pos =>
    have CF := Lib.hid (fun w2 v2 (h : RepT w2 (fun _ => True) v2 t) => tfull (b := false) t (by simp [hm0]) v2 w2 _ h)
    have HE2 := Lib.hid (show res = t from by rw [HE.out, if_pos hm0])
    clear HE hm0
    refine (CF.out _ _ (HT0.out)).mono ?_
    rintro e w1 ⟨rfl, hb⟩
    have HD1 := Lib.hid (show Below W0.heap.size W0 w1 from hb)
    have L1_0 := Lib.hid (L1.out.keep HD1.out)
    have L1_1 := Lib.hid (L2.out.keep HD1.out)
    have L1_2 := Lib.hid (L3.out.keep HD1.out)
    have L1_3 := Lib.hid (L4.out.keep HD1.out)
    have V1_o := Lib.hid (HO0.out.keep HD1.out)
    have V1_v := Lib.hid (HV0.out.keep HD1.out)
    have V1_t := Lib.hid (HT0.out.keep HD1.out)
    have V1_MO := Lib.hid (HMO.out.keep HD1.out)
    have V1_MV := Lib.hid (HMV.out.keep HD1.out)
    have V1_MT := Lib.hid (HMT.out.keep HD1.out)
    have HW1 := Lib.hid (Below.next HW0.out HD1.out)
    clear k0_0 l0_0 k0_1 l0_1 k0_2 l0_2 k0_3 l0_3 hb HD1 L1 L2 L3 L4 HO0 HV0 HT0 HMO HMV HMT HW0
    have k1_0 := L1_0.out.cell
    have l1_0 := L1_0.out.lt
    have k1_1 := L1_1.out.cell
    have l1_1 := L1_1.out.lt
    have k1_2 := L1_2.out.cell
    have l1_2 := L1_2.out.lt
    have k1_3 := L1_3.out.cell
    have l1_3 := L1_3.out.lt
    go_wp2_with fail
    refine (clone_any t _ _ _ (V1_t.out)).mono ?_
    rintro e w9 ⟨v9, rfl, hr, hb⟩
    obtain ⟨qa9, qc9, qm9, qn9, rfl, -⟩ := hr.inv
    have HR9 := Lib.hid hr; have M3 := Lib.hid (L1_3.out.keep hb); have HW9 := Lib.hid (Below.next HW1.out hb); have hsz := HW1.out.size; have hl3 := L1_3.out.lt
    clear hr hb k1_0 l1_0 k1_1 l1_1 k1_2 l1_2 k1_3 l1_3
    have zk := M3.out.cell; have zf := M3.out.frozen; have zl := M3.out.lt
    go_wp2_with fail
    exact ret_cell rfl rfl ((((((M3.out.set_ 0 _).set_ 1 _).set_ 2 _).set_ 3 _).set_ 4 _).set_ 5 _) Try.underlying25 val_size rfl ⟨_, rfl, by rw [HE2.out]; exact HR9.out.mono (fun b (h : _ ≤ b) _ => by show w.heap.size ≤ b; omega) (fun b o (h : _ ≤ b) _ => World.cell?_of_block (w := w9) (set6_heap (o := 0) (show b ≠ w.heap.size + 1 + 1 + 1 by omega))), set6_below (o := 0) HW9.out (by omega)⟩
  have hpos := List.length_pos_iff.2 hm0
  have CF := Lib.hid (fun w2 v2 (h : RepT w2 (fun _ => True) v2 t) => tfull (b := true) t (by simp; omega) v2 w2 _ h)
  have HE2 := Lib.hid (show res = mergeO o.map t (T.mergeM t.map o v (mkMap (mapT v.map))) from by rw [HE.out, if_neg hm0])
  clear HE hm0 hpos
  refine (CF.out _ _ (HT0.out)).mono ?_
  rintro e w1 ⟨rfl, hb⟩
  have HD1 := Lib.hid (show Below W0.heap.size W0 w1 from hb)
  have L1_0 := Lib.hid (L1.out.keep HD1.out)
  have L1_1 := Lib.hid (L2.out.keep HD1.out)
  have L1_2 := Lib.hid (L3.out.keep HD1.out)
  have L1_3 := Lib.hid (L4.out.keep HD1.out)
  have V1_o := Lib.hid (HO0.out.keep HD1.out)
  have V1_v := Lib.hid (HV0.out.keep HD1.out)
  have V1_t := Lib.hid (HT0.out.keep HD1.out)
  have V1_MO := Lib.hid (HMO.out.keep HD1.out)
  have V1_MV := Lib.hid (HMV.out.keep HD1.out)
  have V1_MT := Lib.hid (HMT.out.keep HD1.out)
  have HW1 := Lib.hid (Below.next HW0.out HD1.out)
  clear k0_0 l0_0 k0_1 l0_1 k0_2 l0_2 k0_3 l0_3 hb HD1 L1 L2 L3 L4 HO0 HV0 HT0 HMO HMV HMT HW0
  have k1_0 := L1_0.out.cell
  have l1_0 := L1_0.out.lt
  have k1_1 := L1_1.out.cell
  have l1_1 := L1_1.out.lt
  have k1_2 := L1_2.out.cell
  have l1_2 := L1_2.out.lt
  have k1_3 := L1_3.out.cell
  have l1_3 := L1_3.out.lt
  go_wp2_with fail
  refine (tmap v.map ma2 _ _ _ (V1_MV.out) hv104).mono ?_
  rintro e w2 ⟨v2, rfl, hr, hb⟩
  obtain ⟨qa2, qc2, qm2, qn2, rfl, -⟩ := hr.inv
  have s1 : w.heap.size + 4 ≤ w1.heap.size := by have h1 := L1_3.out.lt; omega
  have HOV := Lib.hid (OutInv.start (B := w.heap.size + 4) (R := w.heap.size + 1 + 1 + 1) HW1.out L1_3.out (by omega) (by omega) (by omega) hb hr)
  have hb0 := hb
  have HD2 := Lib.hid (show Below w1.heap.size w1 w2 from hb)
  have L2_0 := Lib.hid (L1_0.out.keep HD2.out)
  have L2_1 := Lib.hid (L1_1.out.keep HD2.out)
  have L2_2 := Lib.hid (L1_2.out.keep HD2.out)
  have L2_3 := Lib.hid (L1_3.out.keep HD2.out)
  have V2_o := Lib.hid (V1_o.out.keep HD2.out)
  have V2_v := Lib.hid (V1_v.out.keep HD2.out)
  have V2_t := Lib.hid (V1_t.out.keep HD2.out)
  have V2_MO := Lib.hid (V1_MO.out.keep HD2.out)
  have V2_MT := Lib.hid (V1_MT.out.keep HD2.out)
  have HW2 := Lib.hid (Below.next HW1.out HD2.out)
  clear k1_0 l1_0 k1_1 l1_1 k1_2 l1_2 k1_3 l1_3 hb HD2 L1_0 L1_1 L1_2 L1_3 V1_o V1_v V1_t V1_MO V1_MT HW1
  have k2_0 := L2_0.out.cell
  have l2_0 := L2_0.out.lt
  have k2_1 := L2_1.out.cell
  have l2_1 := L2_1.out.lt
  have k2_2 := L2_2.out.cell
  have l2_2 := L2_2.out.lt
  have k2_3 := L2_3.out.cell
  have l2_3 := L2_3.out.lt
  clear hr hb0
  go_wp2_with fail
  obtain ⟨M0, hM0⟩ : ∃ M, M = mkMap (mapT v.map) := ⟨_, rfl⟩
  go_loopw [30] (fun x wr => ∃ (q : Nat) (M : T) (xa : Option Addr) (xc : Nat) (xm : Option Addr) (xn : Nat), q ≤ t.map.length ∧ x = .int .i64 q ∧ Hid (M = T.mergeM (t.map.take q) o v (mkMap (mapT v.map))) ∧ Below w2.heap.size w2 wr ∧ OutInv w wr (w.heap.size + 4) w2.heap.size (w.heap.size + 1 + 1 + 1) M xa xc xm xn) (fun x _ => t.map.length - (intOf x).toNat)
  case atStart => exact ⟨0, _, _, _, _, _, Nat.zero_le _, rfl, by show _ = _; rw [List.take_zero, T.mergeM], Below.new _ _, HOV.out⟩
  case round =>
    obtain ⟨q, M, xa, xc, xm, xn, hq, rfl, hM, hbl, hov⟩ := hrel
    clear HOV
    have L3_0 := Lib.hid (L2_0.out.keep hbl)
    have L3_1 := Lib.hid (L2_1.out.keep hbl)
    have L3_2 := Lib.hid (L2_2.out.keep hbl)
    have V3_o := Lib.hid (V2_o.out.keep hbl)
    have V3_v := Lib.hid (V2_v.out.keep hbl)
    have V3_t := Lib.hid (V2_t.out.keep hbl)
    have V3_MO := Lib.hid (V2_MO.out.keep hbl)
    have V3_MT := Lib.hid (V2_MT.out.keep hbl)
    have HW3 := Lib.hid (Below.next HW2.out hbl)
    clear k2_0 l2_0 k2_1 l2_1 k2_2 l2_2 k2_3 l2_3
    have k3_0 := L3_0.out.cell; have l3_0 := L3_0.out.lt
    have k3_1 := L3_1.out.cell; have l3_1 := L3_1.out.lt
    have k3_2 := L3_2.out.cell; have l3_2 := L3_2.out.lt
    have HBL := Lib.hid hbl; have HOV := Lib.hid hov; clear hbl hov
    have kO := HOV.out.box.cell; have lO := HOV.out.box.lt
    by_cases hlt : q < t.map.length
    case pos =>
      obtain ⟨b, bo, ya, yc, ym, yn, rfl, -, hblk, hkz, ⟨c0, c1, c2, c3, c4, c5, c6⟩, hr⟩ := V3_MT.out.at_ hlt
      have HMN := Lib.hid (show Neat (na + nb + nc + q) M from by rw [hM.out]; exact HNM.out q hq)
      have HX := Lib.hid (hr.weak (S' := fun _ => True) (fun _ _ _ => trivial)); clear hr
      obtain ⟨wo, hwo⟩ : ∃ z, (getT o t.map[q].1).getD T.zero = z := ⟨_, rfl⟩
      obtain ⟨wv, hwv⟩ : ∃ z, (getT v t.map[q].1).getD T.zero = z := ⟨_, rfl⟩
      obtain ⟨bo1, hbo1⟩ : ∃ z, (getT o t.map[q].1).isSome = z := ⟨_, rfl⟩
      obtain ⟨bv1, hbv1⟩ : ∃ z, (getT v t.map[q].1).isSome = z := ⟨_, rfl⟩
      have G1 := Lib.hid (fun w2 v2 (h : RepT w2 (fun _ => True) v2 o) => tget_b hbo1 hwo v2 w2 _ h HKO.out)
      have G2 := Lib.hid (fun w2 v2 (h : RepT w2 (fun _ => True) v2 v) => tget_b hbv1 hwv v2 w2 _ h HKV.out)
      obtain ⟨y, hy⟩ : ∃ y, y = t.map[q].2.merge wo wv := ⟨_, rfl⟩
      have HIM := Lib.hid (fun vo vv vt w2 (h1 : RepT w2 (fun _ => True) vo wo) (h2 : RepT w2 (fun _ => True) vv wv) (h3 : RepT w2 (fun _ => True) vt t.map[q].2) => show Calls Try.prog 81 #[vo, vv, vt] w2 (NewPost w2 y) from hy ▸ HIH.out t.map[q] (List.getElem_mem hlt) wo wv (hwo ▸ HGO.out _) (hwv ▸ HGV.out _) vo vv vt w2 _ _ _ h1 h2 h3)
      have HY := Lib.hid (show t.map[q].2.map = [] → y = t.map[q].2 from fun e => by rw [hy, merge_eq, if_pos e])
      have HNX := Lib.hid (show putT M t.map[q].1 y = T.mergeM (t.map.take (q + 1)) o v (mkMap (mapT v.map)) from by rw [List.take_succ_eq_append_getElem hlt, mergeM_snoc, mergeP_eq, ← hM.out, hwo, hwv, ← hy])
      have HP := Lib.hid (fun va vb w2 (h1 : RepT w2 (fun _ => True) va M) (h2 : RepT w2 (fun _ => True) vb y) => tput M y t.map[q].1 va vb w2 _ _ h1 h2 hkz (by have := HMN.out.len; omega))
      clear hwo hwv hbo1 hbv1 hy hM HMN
      generalize t.map[q].1 = key at *
      generalize t.map[q].2 = x at *
      have VM := Lib.hid (HOV.out.rep.weak (S' := fun b => b < wr.heap.size) (fun _ _ h => h))
      have LO := Lib.hid HOV.out.box
      clear kO lO
      have kO := LO.out.cell; have lO := LO.out.lt
      have HB0 := Lib.hid (Below.refl wr.heap.size wr)
      by_cases hxm : x.map = []
      case pos =>
        have CX := Lib.hid (fun w2 v2 (h : RepT w2 (fun _ => True) v2 x) => tfull (b := false) x (by simp [hxm]) v2 w2 _ h)
        obtain rfl := (HY.out hxm).symm
        clear HY hxm
        go_wp2_with fail
        refine (CX.out _ _ (HX.out.keep (by exact (Below.new _ _).alloc (by simp) _))).mono ?_
        rintro e w4 ⟨rfl, hb⟩
        have HD4 := Lib.hid (show Below wr.heap.size wr w4 from Below.next ((Below.new _ _).alloc (by simp) _) hb)
        have L4_0 := Lib.hid (L3_0.out.keep HD4.out)
        have L4_1 := Lib.hid (L3_1.out.keep HD4.out)
        have L4_2 := Lib.hid (L3_2.out.keep HD4.out)
        have L4_3 := Lib.hid (LO.out.keep HD4.out)
        have L4_4 := Lib.hid (((Blk.new wr 43 #[.string key, .int .i64 x.kind, .bool x.bool, .int .i64 x.int, .string x.str, .slice ya x.list.length yc, .slice ym x.map.length yn]).alloc (.cells #[.int .i64 x.kind, .bool x.bool, .int .i64 x.int, .string x.str, .slice ya x.list.length yc, .slice ym x.map.length yn] 25)).keep hb)
        have L4_5 := Lib.hid ((Blk.new_at (wr.alloc (.cells #[.string key, .int .i64 x.kind, .bool x.bool, .int .i64 x.int, .string x.str, .slice ya x.list.length yc, .slice ym x.map.length yn] 43)) 25 #[.int .i64 x.kind, .bool x.bool, .int .i64 x.int, .string x.str, .slice ya x.list.length yc, .slice ym x.map.length yn] (n := wr.heap.size + 1) (by simp)).keep hb)
        have V4_o := Lib.hid (V3_o.out.keep HD4.out)
        have V4_v := Lib.hid (V3_v.out.keep HD4.out)
        have V4_t := Lib.hid (V3_t.out.keep HD4.out)
        have V4_MO := Lib.hid (V3_MO.out.keep HD4.out)
        have V4_MT := Lib.hid (V3_MT.out.keep HD4.out)
        have V4_M := Lib.hid (VM.out.keep HD4.out)
        have V4_x := Lib.hid (HX.out.keep HD4.out)
        have B4_0 := Lib.hid (Below.next HB0.out HD4.out)
        have HW4 := Lib.hid (Below.next HW3.out HD4.out)
        clear k3_0 l3_0 k3_1 l3_1 k3_2 l3_2 kO lO hb HD4 L3_0 L3_1 L3_2 LO V3_o V3_v V3_t V3_MO V3_MT VM HX HB0 HW3
        have k4_0 := L4_0.out.cell
        have l4_0 := L4_0.out.lt
        have k4_1 := L4_1.out.cell
        have l4_1 := L4_1.out.lt
        have k4_2 := L4_2.out.cell
        have l4_2 := L4_2.out.lt
        have k4_3 := L4_3.out.cell
        have l4_3 := L4_3.out.lt
        have k4_4 := L4_4.out.cell
        have l4_4 := L4_4.out.lt
        have k4_5 := L4_5.out.cell
        have l4_5 := L4_5.out.lt
        go_wp2_with fail
        refine (HP.out _ _ _ (RepT.weak (S' := fun _ => True) (V4_M.out) (fun _ _ _ => trivial)) (V4_x.out)).mono ?_
        rintro e w9 ⟨v9, rfl, hr, hb⟩
        obtain ⟨qa9, qc9, qm9, qn9, rfl, -⟩ := hr.inv
        have hbq := Below.next B4_0.out hb
        have hsb := B4_0.out.size
        have k3 := (HOV.out.keep hbq).box.cell; have z3 := (HOV.out.keep hbq).box.frozen; have l3 := (HOV.out.keep hbq).box.lt
        have HB3 := Lib.hid hbq; have HR3 := Lib.hid (hr.weak (S' := fun b => wr.heap.size ≤ b) (fun b (h : _ ≤ b) _ => Nat.le_trans hsb h))
        have HBL3 := Lib.hid (Below.next HBL.out hbq)
        clear hr hb hbq hsb
        go_wp2_with fail
        go_roundw
        case rel => exact ⟨q + 1, putT M key x, _, _, _, _, by omega, by go_num, HNX, set6_below (o := 0) HBL3.out (Nat.le_refl _), HOV.out.put HB3.out HR3.out⟩
        case measure => simp [intOf]; omega
      case neg =>
        have CX := Lib.hid (fun w2 v2 (h : RepT w2 (fun _ => True) v2 x) => tfull (b := true) x (by have := List.length_pos_iff.2 hxm; simp; omega) v2 w2 _ h)
        clear HY hxm
        go_wp2_with fail
        refine (CX.out _ _ (HX.out.keep (by exact (Below.new _ _).alloc (by simp) _))).mono ?_
        rintro e w4 ⟨rfl, hb⟩
        have HD4 := Lib.hid (show Below wr.heap.size wr w4 from Below.next ((Below.new _ _).alloc (by simp) _) hb)
        have L4_0 := Lib.hid (L3_0.out.keep HD4.out)
        have L4_1 := Lib.hid (L3_1.out.keep HD4.out)
        have L4_2 := Lib.hid (L3_2.out.keep HD4.out)
        have L4_3 := Lib.hid (LO.out.keep HD4.out)
        have L4_4 := Lib.hid (((Blk.new wr 43 #[.string key, .int .i64 x.kind, .bool x.bool, .int .i64 x.int, .string x.str, .slice ya x.list.length yc, .slice ym x.map.length yn]).alloc (.cells #[.int .i64 x.kind, .bool x.bool, .int .i64 x.int, .string x.str, .slice ya x.list.length yc, .slice ym x.map.length yn] 25)).keep hb)
        have L4_5 := Lib.hid ((Blk.new_at (wr.alloc (.cells #[.string key, .int .i64 x.kind, .bool x.bool, .int .i64 x.int, .string x.str, .slice ya x.list.length yc, .slice ym x.map.length yn] 43)) 25 #[.int .i64 x.kind, .bool x.bool, .int .i64 x.int, .string x.str, .slice ya x.list.length yc, .slice ym x.map.length yn] (n := wr.heap.size + 1) (by simp)).keep hb)
        have V4_o := Lib.hid (V3_o.out.keep HD4.out)
        have V4_v := Lib.hid (V3_v.out.keep HD4.out)
        have V4_t := Lib.hid (V3_t.out.keep HD4.out)
        have V4_MO := Lib.hid (V3_MO.out.keep HD4.out)
        have V4_MT := Lib.hid (V3_MT.out.keep HD4.out)
        have V4_M := Lib.hid (VM.out.keep HD4.out)
        have V4_x := Lib.hid (HX.out.keep HD4.out)
        have B4_0 := Lib.hid (Below.next HB0.out HD4.out)
        have HW4 := Lib.hid (Below.next HW3.out HD4.out)
        clear k3_0 l3_0 k3_1 l3_1 k3_2 l3_2 kO lO hb HD4 L3_0 L3_1 L3_2 LO V3_o V3_v V3_t V3_MO V3_MT VM HX HB0 HW3
        have k4_0 := L4_0.out.cell
        have l4_0 := L4_0.out.lt
        have k4_1 := L4_1.out.cell
        have l4_1 := L4_1.out.lt
        have k4_2 := L4_2.out.cell
        have l4_2 := L4_2.out.lt
        have k4_3 := L4_3.out.cell
        have l4_3 := L4_3.out.lt
        have k4_4 := L4_4.out.cell
        have l4_4 := L4_4.out.lt
        have k4_5 := L4_5.out.cell
        have l4_5 := L4_5.out.lt
        go_wp2_with fail
        refine (G1.out _ _ (V4_o.out)).mono ?_
        rintro e w5 ⟨v5, rfl, hr, hb⟩
        obtain ⟨qa5, qc5, qm5, qn5, rfl, -⟩ := hr.inv
        have N5 := Lib.hid (hr.any)
        clear hr
        have HD5 := Lib.hid (show Below w4.heap.size w4 w5 from hb)
        have L5_0 := Lib.hid (L4_0.out.keep HD5.out)
        have L5_1 := Lib.hid (L4_1.out.keep HD5.out)
        have L5_2 := Lib.hid (L4_2.out.keep HD5.out)
        have L5_3 := Lib.hid (L4_3.out.keep HD5.out)
        have L5_4 := Lib.hid (L4_4.out.keep HD5.out)
        have L5_5 := Lib.hid (L4_5.out.keep HD5.out)
        have V5_o := Lib.hid (V4_o.out.keep HD5.out)
        have V5_v := Lib.hid (V4_v.out.keep HD5.out)
        have V5_t := Lib.hid (V4_t.out.keep HD5.out)
        have V5_MO := Lib.hid (V4_MO.out.keep HD5.out)
        have V5_MT := Lib.hid (V4_MT.out.keep HD5.out)
        have V5_M := Lib.hid (V4_M.out.keep HD5.out)
        have V5_x := Lib.hid (V4_x.out.keep HD5.out)
        have B5_0 := Lib.hid (Below.next B4_0.out HD5.out)
        have HW5 := Lib.hid (Below.next HW4.out HD5.out)
        clear k4_0 l4_0 k4_1 l4_1 k4_2 l4_2 k4_3 l4_3 k4_4 l4_4 k4_5 l4_5 hb HD5 L4_0 L4_1 L4_2 L4_3 L4_4 L4_5 V4_o V4_v V4_t V4_MO V4_MT V4_M V4_x B4_0 HW4
        have k5_0 := L5_0.out.cell
        have l5_0 := L5_0.out.lt
        have k5_1 := L5_1.out.cell
        have l5_1 := L5_1.out.lt
        have k5_2 := L5_2.out.cell
        have l5_2 := L5_2.out.lt
        have k5_3 := L5_3.out.cell
        have l5_3 := L5_3.out.lt
        have k5_4 := L5_4.out.cell
        have l5_4 := L5_4.out.lt
        have k5_5 := L5_5.out.cell
        have l5_5 := L5_5.out.lt
        go_wp2_with fail
        refine (G2.out _ _ (V5_v.out.keep (by exact Below.new _ _))).mono ?_
        rintro e w6 ⟨v6, rfl, hr, hb⟩
        obtain ⟨qa6, qc6, qm6, qn6, rfl, -⟩ := hr.inv
        have N6 := Lib.hid (hr.any)
        clear hr
        have HD6 := Lib.hid (show Below w5.heap.size w5 w6 from Below.next (Below.new _ _) hb)
        have L6_0 := Lib.hid (L5_0.out.keep HD6.out)
        have L6_1 := Lib.hid (L5_1.out.keep HD6.out)
        have L6_2 := Lib.hid (L5_2.out.keep HD6.out)
        have L6_3 := Lib.hid (L5_3.out.keep HD6.out)
        have L6_4 := Lib.hid (L5_4.out.keep HD6.out)
        have L6_5 := Lib.hid (L5_5.out.keep HD6.out)
        have L6_6 := Lib.hid ((Blk.new w5 25 #[.int .i64 wo.kind, .bool wo.bool, .int .i64 wo.int, .string wo.str, .slice qa5 wo.list.length qc5, .slice qm5 wo.map.length qn5]).keep hb)
        have V6_o := Lib.hid (V5_o.out.keep HD6.out)
        have V6_v := Lib.hid (V5_v.out.keep HD6.out)
        have V6_t := Lib.hid (V5_t.out.keep HD6.out)
        have V6_MO := Lib.hid (V5_MO.out.keep HD6.out)
        have V6_MT := Lib.hid (V5_MT.out.keep HD6.out)
        have V6_M := Lib.hid (V5_M.out.keep HD6.out)
        have V6_x := Lib.hid (V5_x.out.keep HD6.out)
        have V6_wo := Lib.hid (N5.out.keep HD6.out)
        have B6_0 := Lib.hid (Below.next B5_0.out HD6.out)
        have HW6 := Lib.hid (Below.next HW5.out HD6.out)
        clear k5_0 l5_0 k5_1 l5_1 k5_2 l5_2 k5_3 l5_3 k5_4 l5_4 k5_5 l5_5 hb HD6 L5_0 L5_1 L5_2 L5_3 L5_4 L5_5 V5_o V5_v V5_t V5_MO V5_MT V5_M V5_x N5 B5_0 HW5
        have k6_0 := L6_0.out.cell
        have l6_0 := L6_0.out.lt
        have k6_1 := L6_1.out.cell
        have l6_1 := L6_1.out.lt
        have k6_2 := L6_2.out.cell
        have l6_2 := L6_2.out.lt
        have k6_3 := L6_3.out.cell
        have l6_3 := L6_3.out.lt
        have k6_4 := L6_4.out.cell
        have l6_4 := L6_4.out.lt
        have k6_5 := L6_5.out.cell
        have l6_5 := L6_5.out.lt
        have k6_6 := L6_6.out.cell
        have l6_6 := L6_6.out.lt
        go_wp2_with fail
        have HPX := Lib.hid (show wr.heap.size + 1 < ((w6.alloc (.cells #[.int .i64 wv.kind, .bool wv.bool, .int .i64 wv.int, .string wv.str, .slice qa6 wv.list.length qc6, .slice qm6 wv.map.length qn6] 25))).heap.size from by have := L6_5.out.lt; simp; omega)
        refine (HIM.out _ _ _ _ (V6_wo.out.keep (by exact Below.new _ _)) (N6.out.keep (by exact Below.new _ _)) (V6_x.out.keep (by exact Below.new _ _))).mono ?_
        rintro e w7 ⟨v7, rfl, hr, hb⟩
        obtain ⟨qa7, qc7, qm7, qn7, rfl, -⟩ := hr.inv
        have HRY := Lib.hid hr; clear hr
        have HD7 := Lib.hid (show Below w6.heap.size w6 w7 from Below.next (Below.new _ _) hb)
        have L7_0 := Lib.hid (L6_0.out.keep HD7.out)
        have L7_1 := Lib.hid (L6_1.out.keep HD7.out)
        have L7_2 := Lib.hid (L6_2.out.keep HD7.out)
        have L7_3 := Lib.hid (L6_3.out.keep HD7.out)
        have L7_4 := Lib.hid (L6_4.out.keep HD7.out)
        have L7_5 := Lib.hid (L6_5.out.keep HD7.out)
        have L7_6 := Lib.hid (L6_6.out.keep HD7.out)
        have L7_7 := Lib.hid ((Blk.new w6 25 #[.int .i64 wv.kind, .bool wv.bool, .int .i64 wv.int, .string wv.str, .slice qa6 wv.list.length qc6, .slice qm6 wv.map.length qn6]).keep hb)
        have V7_o := Lib.hid (V6_o.out.keep HD7.out)
        have V7_v := Lib.hid (V6_v.out.keep HD7.out)
        have V7_t := Lib.hid (V6_t.out.keep HD7.out)
        have V7_MO := Lib.hid (V6_MO.out.keep HD7.out)
        have V7_MT := Lib.hid (V6_MT.out.keep HD7.out)
        have V7_M := Lib.hid (V6_M.out.keep HD7.out)
        have V7_x := Lib.hid (V6_x.out.keep HD7.out)
        have V7_wo := Lib.hid (V6_wo.out.keep HD7.out)
        have V7_wv := Lib.hid (N6.out.keep HD7.out)
        have B7_0 := Lib.hid (Below.next B6_0.out HD7.out)
        have HW7 := Lib.hid (Below.next HW6.out HD7.out)
        clear k6_0 l6_0 k6_1 l6_1 k6_2 l6_2 k6_3 l6_3 k6_4 l6_4 k6_5 l6_5 k6_6 l6_6 hb HD7 L6_0 L6_1 L6_2 L6_3 L6_4 L6_5 L6_6 V6_o V6_v V6_t V6_MO V6_MT V6_M V6_x V6_wo N6 B6_0 HW6
        have k7_0 := L7_0.out.cell
        have l7_0 := L7_0.out.lt
        have k7_1 := L7_1.out.cell
        have l7_1 := L7_1.out.lt
        have k7_2 := L7_2.out.cell
        have l7_2 := L7_2.out.lt
        have k7_3 := L7_3.out.cell
        have l7_3 := L7_3.out.lt
        have k7_4 := L7_4.out.cell
        have l7_4 := L7_4.out.lt
        have k7_5 := L7_5.out.cell
        have l7_5 := L7_5.out.lt
        have k7_6 := L7_6.out.cell
        have l7_6 := L7_6.out.lt
        have k7_7 := L7_7.out.cell
        have l7_7 := L7_7.out.lt
        have zf := L7_5.out.frozen
        have hgx : wr.heap.size + 1 ≠ w2.heap.size := by have := HOV.out.box.lt; omega
        have Z0 : Blk ((((((w7.setCell ⟨(wr.heap.size+1), 0, none⟩ (.int .i64 y.kind)).setCell ⟨(wr.heap.size+1), 1, none⟩ (.bool y.bool)).setCell ⟨(wr.heap.size+1), 2, none⟩ (.int .i64 y.int)).setCell ⟨(wr.heap.size+1), 3, none⟩ (.string y.str)).setCell ⟨(wr.heap.size+1), 4, none⟩ (.slice qa7 y.list.length qc7)).setCell ⟨(wr.heap.size+1), 5, none⟩ (.slice qm7 y.map.length qn7)) w2.heap.size 25 #[.int .i64 M.kind, .bool M.bool, .int .i64 M.int, .string M.str, .slice xa M.list.length xc, .slice xm M.map.length xn] := blk_six L7_3.out (Ne.symm hgx)
        have Z1 : Blk ((((((w7.setCell ⟨(wr.heap.size+1), 0, none⟩ (.int .i64 y.kind)).setCell ⟨(wr.heap.size+1), 1, none⟩ (.bool y.bool)).setCell ⟨(wr.heap.size+1), 2, none⟩ (.int .i64 y.int)).setCell ⟨(wr.heap.size+1), 3, none⟩ (.string y.str)).setCell ⟨(wr.heap.size+1), 4, none⟩ (.slice qa7 y.list.length qc7)).setCell ⟨(wr.heap.size+1), 5, none⟩ (.slice qm7 y.map.length qn7)) wr.heap.size 43 #[.string key, .int .i64 x.kind, .bool x.bool, .int .i64 x.int, .string x.str, .slice ya x.list.length yc, .slice ym x.map.length yn] := blk_six L7_4.out (by omega)
        have Z2 : Blk ((((((w7.setCell ⟨(wr.heap.size+1), 0, none⟩ (.int .i64 y.kind)).setCell ⟨(wr.heap.size+1), 1, none⟩ (.bool y.bool)).setCell ⟨(wr.heap.size+1), 2, none⟩ (.int .i64 y.int)).setCell ⟨(wr.heap.size+1), 3, none⟩ (.string y.str)).setCell ⟨(wr.heap.size+1), 4, none⟩ (.slice qa7 y.list.length qc7)).setCell ⟨(wr.heap.size+1), 5, none⟩ (.slice qm7 y.map.length qn7)) (wr.heap.size + 1) 25 #[.int .i64 y.kind, .bool y.bool, .int .i64 y.int, .string y.str, .slice qa7 y.list.length qc7, .slice qm7 y.map.length qn7] := ((((((L7_5.out.set_ 0 _).set_ 1 _).set_ 2 _).set_ 3 _).set_ 4 _).set_ 5 _)
        have z0 := Z0.cell; have z0l := Z0.lt; have z1 := Z1.cell; have z1l := Z1.lt; have z2 := Z2.cell; have z2l := Z2.lt
        have YM := Lib.hid (V7_M.out.mono (w' := ((((((w7.setCell ⟨(wr.heap.size+1), 0, none⟩ (.int .i64 y.kind)).setCell ⟨(wr.heap.size+1), 1, none⟩ (.bool y.bool)).setCell ⟨(wr.heap.size+1), 2, none⟩ (.int .i64 y.int)).setCell ⟨(wr.heap.size+1), 3, none⟩ (.string y.str)).setCell ⟨(wr.heap.size+1), 4, none⟩ (.slice qa7 y.list.length qc7)).setCell ⟨(wr.heap.size+1), 5, none⟩ (.slice qm7 y.map.length qn7))) (S' := fun _ => True) (fun _ _ _ => trivial) (fun b o (h : b < wr.heap.size) _ => World.cell?_of_block (w := w7) (set6_heap (o := 0) (show b ≠ wr.heap.size + 1 by omega))))
        have hpx : wr.heap.size + 1 < ((w6.alloc (.cells #[.int .i64 wv.kind, .bool wv.bool, .int .i64 wv.int, .string wv.str, .slice qa6 wv.list.length qc6, .slice qm6 wv.map.length qn6] 25))).heap.size := HPX.out
        have YY := Lib.hid (HRY.out.mono (w' := ((((((w7.setCell ⟨(wr.heap.size+1), 0, none⟩ (.int .i64 y.kind)).setCell ⟨(wr.heap.size+1), 1, none⟩ (.bool y.bool)).setCell ⟨(wr.heap.size+1), 2, none⟩ (.int .i64 y.int)).setCell ⟨(wr.heap.size+1), 3, none⟩ (.string y.str)).setCell ⟨(wr.heap.size+1), 4, none⟩ (.slice qa7 y.list.length qc7)).setCell ⟨(wr.heap.size+1), 5, none⟩ (.slice qm7 y.map.length qn7))) (S' := fun _ => True) (fun _ _ _ => trivial) (fun b o (h : _ ≤ b) _ => World.cell?_of_block (w := w7) (set6_heap (o := 0) (show b ≠ wr.heap.size + 1 by omega))))
        have YB := Lib.hid (show Below wr.heap.size wr ((((((w7.setCell ⟨(wr.heap.size+1), 0, none⟩ (.int .i64 y.kind)).setCell ⟨(wr.heap.size+1), 1, none⟩ (.bool y.bool)).setCell ⟨(wr.heap.size+1), 2, none⟩ (.int .i64 y.int)).setCell ⟨(wr.heap.size+1), 3, none⟩ (.string y.str)).setCell ⟨(wr.heap.size+1), 4, none⟩ (.slice qa7 y.list.length qc7)).setCell ⟨(wr.heap.size+1), 5, none⟩ (.slice qm7 y.map.length qn7)) from set6_below (o := 0) B7_0.out (by omega))
        clear k7_0 l7_0 k7_1 l7_1 k7_2 l7_2 k7_3 l7_3 k7_4 l7_4 k7_5 l7_5 k7_6 l7_6 k7_7 l7_7 HRY hpx
        have kk := L7_5.out.cell; have ll := L7_5.out.lt
        go_wp2_with fail
        refine (HP.out _ _ _ YM.out YY.out).mono ?_
        rintro e w9 ⟨v9, rfl, hr, hb⟩
        obtain ⟨qa9, qc9, qm9, qn9, rfl, -⟩ := hr.inv
        have hbq := Below.next YB.out hb
        have hsb := YB.out.size
        have k3 := (HOV.out.keep hbq).box.cell; have z3 := (HOV.out.keep hbq).box.frozen; have l3 := (HOV.out.keep hbq).box.lt
        have HB3 := Lib.hid hbq; have HR3 := Lib.hid (hr.weak (S' := fun b => wr.heap.size ≤ b) (fun b (h : _ ≤ b) _ => Nat.le_trans hsb h))
        have HBL3 := Lib.hid (Below.next HBL.out hbq)
        clear hr hb hbq hsb z0 z0l z1 z1l z2 z2l
        go_wp2_with fail
        go_roundw
        case rel => exact ⟨q + 1, putT M key y, _, _, _, _, by omega, by go_num, HNX, set6_below (o := 0) HBL3.out (Nat.le_refl _), HOV.out.put HB3.out HR3.out⟩
        case measure => simp [intOf]; omega
    case neg =>
      obtain rfl : q = t.map.length := by omega
      rw [List.take_length] at hM
      have HM1 := Lib.hid (show Neat (na + nb + nc + t.map.length) M from by have h := HNM.out t.map.length (Nat.le_refl _); rw [List.take_length, ← hM.out] at h; exact h)
      have HE3 := Lib.hid (show res = mergeO o.map t M from by rw [HE2.out, ← hM.out])
      rename World => wr0
      clear hM hlt HE2
      go_wp2_with fail
      go_loopw [65] (fun x wr => ∃ (j : Nat) (N : T) (xa : Option Addr) (xc : Nat) (xm : Option Addr) (xn : Nat), j ≤ o.map.length ∧ x = .int .i64 j ∧ Hid (N = mergeO (o.map.take j) t M) ∧ Below w2.heap.size w2 wr ∧ OutInv w wr (w.heap.size + 4) w2.heap.size (w.heap.size + 1 + 1 + 1) N xa xc xm xn) (fun x _ => o.map.length - (intOf x).toNat)
      case atStart => exact ⟨0, M, _, _, _, _, Nat.zero_le _, rfl, by show _ = _; rw [List.take_zero, mergeO], HBL.out, HOV.out⟩
      case round =>
        clear HOV HBL kO lO k3_0 l3_0 k3_1 l3_1 k3_2 l3_2
        obtain ⟨j, N, za, zc, zm, zn, hj, rfl, hN, hbl, hov⟩ := hrel
        have hnop : True := trivial
        have L13_0 := Lib.hid (L2_0.out.keep hbl)
        have L13_1 := Lib.hid (L2_1.out.keep hbl)
        have L13_2 := Lib.hid (L2_2.out.keep hbl)
        have V13_o := Lib.hid (V2_o.out.keep hbl)
        have V13_v := Lib.hid (V2_v.out.keep hbl)
        have V13_t := Lib.hid (V2_t.out.keep hbl)
        have V13_MO := Lib.hid (V2_MO.out.keep hbl)
        have V13_MT := Lib.hid (V2_MT.out.keep hbl)
        have HW13 := Lib.hid (Below.next HW2.out hbl)
        have k13_0 := L13_0.out.cell; have l13_0 := L13_0.out.lt
        have k13_1 := L13_1.out.cell; have l13_1 := L13_1.out.lt
        have k13_2 := L13_2.out.cell; have l13_2 := L13_2.out.lt
        have HBL := Lib.hid hbl; have HOV := Lib.hid hov; clear hbl hov
        have kO := HOV.out.box.cell; have lO := HOV.out.box.lt
        by_cases hlt : j < o.map.length
        case neg =>
          obtain rfl : j = o.map.length := by omega
          rw [List.take_length] at hN
          have hk0 := HOV.out.res.cell; have hf0 := HOV.out.res.frozen; have hl0 := HOV.out.res.lt
          go_wp2_with fail
          obtain ⟨d1, d2⟩ := HOV.out.done
          exact ret_cell rfl rfl d1 Try.underlying25 val_size rfl (by rw [HE3.out, ← hN.out]; exact d2)
        obtain ⟨b, bo, ya, yc, ym, yn, rfl, -, hblk, hkz, ⟨c0, c1, c2, c3, c4, c5, c6⟩, hr⟩ := V13_MO.out.at_ hlt
        have HX := Lib.hid (hr.weak (S' := fun _ => True) (fun _ _ _ => trivial)); clear hr
        have HNN := Lib.hid (show Neat (na + nb + nc + t.map.length) N from by rw [hN.out]; exact HNO.out (o.map.take j) M _ (fun p hp => List.mem_of_mem_take hp) HM1.out)
        have HXN := Lib.hid (HMEM.out o.map[j] (List.getElem_mem hlt))
        obtain ⟨bt, hbt⟩ : ∃ z, (getT t o.map[j].1).isSome = z := ⟨_, rfl⟩
        obtain ⟨tt, htt⟩ : ∃ z, (getT t o.map[j].1).getD T.zero = z := ⟨_, rfl⟩
        have G1 := Lib.hid (fun w2 v2 (h : RepT w2 (fun _ => True) v2 t) => tget_b hbt htt v2 w2 _ h HKT.out)
        have HNX := Lib.hid (show (if bt = true then N else T.cutP (o.map[j].1, o.map[j].2) N) = mergeO (o.map.take (j + 1)) t M from by rw [List.take_succ_eq_append_getElem hlt, mergeO_snoc, ← hN.out, ← hbt]; cases getT t o.map[j].1 <;> rfl)
        have HLS := Lib.hid (fun la lc ma mc va w2 S2 S3 => tless (na := na + nb + nc + t.map.length) (by omega) o.map[j].2 N o.map[j].1 HNN.out hkz (fun z hz va vb w S S' h1 h2 => tcut (na := na + nb + nc + t.map.length) (nb := nb) (by omega) (by omega) o.map[j].2 z (HNN.out.got hz) HXN.out va vb w S S' h1 h2) la lc ma mc va w2 S2 S3)
        clear hbt htt hN HXN HNN
        generalize o.map[j].1 = key at *
        generalize o.map[j].2 = x at *
        have LO := Lib.hid HOV.out.box
        have VR := Lib.hid HOV.out.rep
        clear kO lO
        have kO := LO.out.cell; have lO := LO.out.lt
        have HB0 := Lib.hid (Below.refl wr.heap.size wr)
        go_wp2_with fail
        refine (G1.out _ _ (V13_t.out.keep (by exact Below.new _ _))).mono ?_
        rintro e w14 ⟨v14, rfl, hr, hb⟩
        obtain ⟨qa14, qc14, qm14, qn14, rfl, -⟩ := hr.inv
        have N14 := Lib.hid (hr.any)
        clear hr
        have HD14 := Lib.hid (show Below wr.heap.size wr w14 from Below.next (Below.new _ _) hb)
        have L14_0 := Lib.hid (L13_0.out.keep HD14.out)
        have L14_1 := Lib.hid (L13_1.out.keep HD14.out)
        have L14_2 := Lib.hid (L13_2.out.keep HD14.out)
        have L14_3 := Lib.hid (LO.out.keep HD14.out)
        have L14_4 := Lib.hid ((Blk.new wr 43 #[.string key, .int .i64 x.kind, .bool x.bool, .int .i64 x.int, .string x.str, .slice ya x.list.length yc, .slice ym x.map.length yn]).keep hb)
        have V14_o := Lib.hid (V13_o.out.keep HD14.out)
        have V14_v := Lib.hid (V13_v.out.keep HD14.out)
        have V14_t := Lib.hid (V13_t.out.keep HD14.out)
        have V14_MO := Lib.hid (V13_MO.out.keep HD14.out)
        have V14_MT := Lib.hid (V13_MT.out.keep HD14.out)
        have V14_x := Lib.hid (HX.out.keep HD14.out)
        have V14_R := Lib.hid (VR.out.keep HD14.out)
        have B14_0 := Lib.hid (Below.next HB0.out HD14.out)
        have HW14 := Lib.hid (Below.next HW13.out HD14.out)
        clear k13_0 l13_0 k13_1 l13_1 k13_2 l13_2 kO lO hb HD14 L13_0 L13_1 L13_2 LO V13_o V13_v V13_t V13_MO V13_MT HX VR HB0 HW13
        have k14_0 := L14_0.out.cell
        have l14_0 := L14_0.out.lt
        have k14_1 := L14_1.out.cell
        have l14_1 := L14_1.out.lt
        have k14_2 := L14_2.out.cell
        have l14_2 := L14_2.out.lt
        have k14_3 := L14_3.out.cell
        have l14_3 := L14_3.out.lt
        have k14_4 := L14_4.out.cell
        have l14_4 := L14_4.out.lt
        cases bt
        · have HNX2 := Lib.hid (show T.cutP (key, x) N = mergeO (o.map.take (j + 1)) t M from by rw [← HNX.out]; simp)
          clear HNX
          generalize hres2 : T.cutP (key, x) N = cp at *
          clear hres2
          go_wp2_with fail
          have hbw : Below wr.heap.size wr (w14.alloc (.cells #[.int .i64 tt.kind, .bool tt.bool, .int .i64 tt.int, .string tt.str, .slice qa14 tt.list.length qc14, .slice qm14 tt.map.length qn14] 25)) := Below.next B14_0.out (Below.new _ _)
          refine (HLS.out ya yc ym yn _ _ _ _ (V14_R.out.keep (by exact Below.new _ _)) (V14_x.out.keep (by exact Below.new _ _))).mono ?_
          rintro e w9 ⟨v9, rfl, hr, hb⟩
          obtain ⟨qa9, qc9, qm9, qn9, rfl, -⟩ := hr.inv
          have hbq := Below.next hbw hb; have hsb := hbw.size
          have k3 := (HOV.out.keep hbq).box.cell; have z3 := (HOV.out.keep hbq).box.frozen; have l3 := (HOV.out.keep hbq).box.lt
          have HB3 := Lib.hid hbq; have HR3 := Lib.hid (hr.weak (S' := fun b => (w.heap.size + 4 ≤ b ∧ b ≠ w2.heap.size) ∨ wr.heap.size ≤ b) (fun b h _ => h.imp id (fun h => Nat.le_trans hsb h)))
          have HBL3 := Lib.hid (Below.next HBL.out hbq)
          clear hr hb hbq hsb hbw
          go_wp2_with fail
          go_roundw
          case rel => exact ⟨j + 1, cp, _, _, _, _, by omega, by go_num, HNX2, set6_below (o := 0) HBL3.out (Nat.le_refl _), HOV.out.put' HB3.out HR3.out⟩
          case measure => simp [intOf]; omega
        · have HNX2 := Lib.hid (show N = mergeO (o.map.take (j + 1)) t M from by rw [← HNX.out]; simp)
          clear HNX HLS
          go_wp2_with fail
          go_roundw
          case rel => exact ⟨j + 1, N, _, _, _, _, by omega, by go_num, HNX2, Below.next HBL.out (Below.next B14_0.out (Below.new _ _)), HOV.out.keep (Below.next B14_0.out (Below.new _ _))⟩
          case measure => simp [intOf]; omega
end Go.Proofs.Ytmdihildjblgnaa

/- The document's example of layer 14 answers true. -/
namespace Go.Proofs.Ytmdihildjblgnaa
open Go.RowKit
attribute [local go_sem ↓] Go.wp_at_zero Go.wp_at_succ


theorem cell_far14 {w : World} {g k b i : Nat} {u : Value} (h : b ≠ g) : (w.setCell ⟨g, k, none⟩ u).cell? ⟨b, i, none⟩ = w.cell? ⟨b, i, none⟩ := World.cell?_of_block (Below.heap_setCell w ⟨g, k, none⟩ u b h)
set_option maxRecDepth 100000 in
set_option maxHeartbeats 1000000 in
theorem tpair14 (k : ByteArray) (n : Int) (hn : i64ok n) (w : World) :
    Calls Try.prog 102 #[.string k, .int .i64 n] w fun e w' => ∃ la lc ma mc, e = .returned (.agg #[.string k, .int .i64 (tI n).kind, .bool (tI n).bool, .int .i64 (tI n).int, .string (tI n).str, .slice la (tI n).list.length lc, .slice ma (tI n).map.length mc]) ∧ RepT w' (fun _ => True) (.agg #[.int .i64 (tI n).kind, .bool (tI n).bool, .int .i64 (tI n).int, .string (tI n).str, .slice la (tI n).list.length lc, .slice ma (tI n).map.length mc]) (tI n) ∧ Below w.heap.size w w' := by
  go_enter Try.func102, Try.ntmps102
  go_wp2_with fail
  have hB : Blk (w.alloc (.cells #[.string ⟨#[]⟩, .int .i64 0, .bool false, .int .i64 0, .string ⟨#[]⟩, .slice none 0 0, .slice none 0 0] 43)) w.heap.size 43 #[.string ⟨#[]⟩, .int .i64 0, .bool false, .int .i64 0, .string ⟨#[]⟩, .slice none 0 0, .slice none 0 0] := Blk.new _ _ _
  refine (tint' n hn _).mono ?_
  rintro e w1 ⟨v1, rfl, hr, hb⟩
  obtain ⟨qa, qc, qm, qn, rfl, -⟩ := hr.inv
  have L := hB.keep hb
  have hs : (w.alloc (.cells #[.string ⟨#[]⟩, .int .i64 0, .bool false, .int .i64 0, .string ⟨#[]⟩, .slice none 0 0, .slice none 0 0] 43)).heap.size = w.heap.size + 1 := by simp
  rw [hs] at hr
  have HR := Lib.hid hr
  have HL := Lib.hid L
  have HW := Lib.hid (show Below w.heap.size w w1 from Below.next (Below.new _ _) hb)
  have zk := L.cell; have zf := L.frozen; have zl := L.lt
  clear hb hr hB L hs
  go_wp2_with fail
  exact ret_cell rfl rfl (((((((HL.out.set_ 0 _).set_ 1 _).set_ 2 _).set_ 3 _).set_ 4 _).set_ 5 _).set_ 6 _) Try.underlying43 (by kernel_rfl) rfl ⟨_, _, _, _, rfl, HR.out.mono (fun _ _ _ => trivial) (fun b o (h : _ ≤ b) _ => by
    have hne : b ≠ w.heap.size := by omega
    simp only [cell_far14 hne]), ((((((HW.out.setCell (p := ⟨w.heap.size, 0, none⟩) (Nat.le_refl _) _).setCell (p := ⟨w.heap.size, 1, none⟩) (Nat.le_refl _) _).setCell (p := ⟨w.heap.size, 2, none⟩) (Nat.le_refl _) _).setCell (p := ⟨w.heap.size, 3, none⟩) (Nat.le_refl _) _).setCell (p := ⟨w.heap.size, 4, none⟩) (Nat.le_refl _) _).setCell (p := ⟨w.heap.size, 5, none⟩) (Nat.le_refl _) _).setCell (p := ⟨w.heap.size, 6, none⟩) (Nat.le_refl _) _⟩

def aw14A : List (ByteArray × T) := [(⟨#[97]⟩, tI 1), (⟨#[98]⟩, tI 2)]
def aw14B : List (ByteArray × T) := [(⟨#[97]⟩, tI 1), (⟨#[98]⟩, tI 3), (⟨#[99]⟩, tI 4)]
def aw14C : List (ByteArray × T) := [(⟨#[97]⟩, tI 5)]
def aw14V : List (ByteArray × T) := [(⟨#[97]⟩, tI 5), (⟨#[99]⟩, tI 4)]
theorem aw14_ac : klt ⟨#[97]⟩ ⟨#[99]⟩ = true := by simp [klt, ByteArray.toList_eq, Op.bytesLess]
theorem aw14_bc : klt ⟨#[98]⟩ ⟨#[99]⟩ = true := by simp [klt, ByteArray.toList_eq, Op.bytesLess]
theorem aw14_KA : KS aw14A := KS_two aw3_ab
theorem aw14_KB : KS aw14B := KS_cons (KS_two aw14_bc) (by
  intro q hq
  simp only [List.mem_cons, List.not_mem_nil, or_false] at hq
  rcases hq with rfl | rfl
  · exact aw3_ab
  · exact aw14_ac)
theorem aw14_KC : KS aw14C := KS_one _
theorem aw14_KV : KS aw14V := KS_two aw14_ac
theorem aw14_nA : Neat 3 (mkMap aw14A) := by
  refine Neat.mkMap aw14_KA (by simp [aw14A]) ?_
  simp only [aw14A, List.mem_cons, List.not_mem_nil, or_false]
  rintro p (rfl | rfl) <;> exact ⟨by decide +kernel, neat_tI _ _⟩
theorem aw14_nB : Neat 3 (mkMap aw14B) := by
  refine Neat.mkMap aw14_KB (by simp [aw14B]) ?_
  simp only [aw14B, List.mem_cons, List.not_mem_nil, or_false]
  rintro p (rfl | rfl | rfl) <;> exact ⟨by decide +kernel, neat_tI _ _⟩
theorem aw14_nC : Neat 3 (mkMap aw14C) := by
  refine Neat.mkMap aw14_KC (by simp [aw14C]) ?_
  simp only [aw14C, List.mem_cons, List.not_mem_nil, or_false]
  rintro p rfl
  exact ⟨by decide +kernel, neat_tI _ _⟩
theorem aw14_merge : (mkMap aw14C).merge (mkMap aw14A) (mkMap aw14B) = mkMap aw14V := by
  obtain ⟨l', e, hks, -, hlk⟩ := merge_look aw14_nC aw14_nA aw14_nB (by simp [mkMap, T.map, aw14C])
  rw [e]
  congr 1
  refine KS_ext hks aw14_KV fun k => ?_
  rw [hlk, show (mkMap aw14C).map = aw14C from rfl, show (mkMap aw14A).map = aw14A from rfl, show (mkMap aw14B).map = aw14B from rfl]
  have n1 : ¬ (⟨#[98]⟩ : ByteArray) = ⟨#[97]⟩ := by decide
  have n2 : ¬ (⟨#[99]⟩ : ByteArray) = ⟨#[97]⟩ := by decide
  have n3 : ¬ (⟨#[99]⟩ : ByteArray) = ⟨#[98]⟩ := by decide
  have n4 : ¬ (⟨#[97]⟩ : ByteArray) = ⟨#[98]⟩ := by decide
  have n5 : ¬ (⟨#[97]⟩ : ByteArray) = ⟨#[99]⟩ := by decide
  have n6 : ¬ (⟨#[98]⟩ : ByteArray) = ⟨#[99]⟩ := by decide
  unfold mrg3
  simp only [aw14A, aw14B, aw14C, aw14V, look]
  by_cases h1 : (⟨#[97]⟩ : ByteArray) = k
  · subst h1
    simp only [if_true]
    rw [merge_eq, if_pos (by rfl)]
  · by_cases h2 : (⟨#[98]⟩ : ByteArray) = k
    · subst h2
      simp only [n4, n3, if_true, if_false, Option.bind_some, cutl]
      rw [cut_none (.inl (by rfl)), if_pos (by rfl)]
    · by_cases h3 : (⟨#[99]⟩ : ByteArray) = k
      · subst h3
        simp only [n5, n6, if_true, if_false, Option.bind_some, cutl]
      · simp only [h1, h2, h3, if_false, Option.bind_none]

set_option maxRecDepth 100000 in
set_option maxHeartbeats 8000000 in
theorem awake14 (w : World) : Calls Try.prog 53 #[] w fun e w' => e = .returned (.bool true) ∧ Below w.heap.size w w' := by
  go_enter Try.func53, Try.ntmps53
  go_wp2_with fail
  refine (tpair14 ⟨#[97]⟩ 1 (by unfold i64ok; omega) _).mono ?_
  rintro e w1 ⟨qa1, qc1, qm1, qn1, rfl, hr, hb⟩
  have N1 := Lib.hid hr; clear hr
  have HD1 := Lib.hid (show Below w.heap.size w w1 from hb)
  have HW1 := Lib.hid (show Below w.heap.size w w1 from HD1.out)
  clear hb HD1
  go_wp2_with fail
  refine (tpair14 ⟨#[98]⟩ 2 (by unfold i64ok; omega) _).mono ?_
  rintro e w2 ⟨qa2, qc2, qm2, qn2, rfl, hr, hb⟩
  have N2 := Lib.hid hr; clear hr
  have HD2 := Lib.hid (show Below w1.heap.size w1 w2 from hb)
  have V2_a1 := Lib.hid (N1.out.keep HD2.out)
  have HW2 := Lib.hid (Below.next HW1.out HD2.out)
  clear hb HD2 N1 HW1
  go_wp2_with fail
  refine (tmap_is (l := [(⟨#[97]⟩, (tI 1)), (⟨#[98]⟩, (tI 2))]) (l' := aw14A) (mapT_self aw14_KA) (some ⟨w2.heap.size, 0, none⟩) 2 _ (repE_M.1 (rep_block (E := eltP) (S := fun _ => True) (l := [(⟨#[97]⟩, (tI 1)), (⟨#[98]⟩, (tI 2))]) [[.string ⟨#[97]⟩, .int .i64 (tI 1).kind, .bool (tI 1).bool, .int .i64 (tI 1).int, .string (tI 1).str, .slice qa1 (tI 1).list.length qc1, .slice qm1 (tI 1).map.length qn1], [.string ⟨#[98]⟩, .int .i64 (tI 2).kind, .bool (tI 2).bool, .int .i64 (tI 2).int, .string (tI 2).str, .slice qa2 (tI 2).list.length qc2, .slice qm2 (tI 2).map.length qn2]] (Blk.new_at w2 43 #[.string ⟨#[97]⟩, .int .i64 (tI 1).kind, .bool (tI 1).bool, .int .i64 (tI 1).int, .string (tI 1).str, .slice qa1 (tI 1).list.length qc1, .slice qm1 (tI 1).map.length qn1, .string ⟨#[98]⟩, .int .i64 (tI 2).kind, .bool (tI 2).bool, .int .i64 (tI 2).int, .string (tI 2).str, .slice qa2 (tI 2).list.length qc2, .slice qm2 (tI 2).map.length qn2] (n := w2.heap.size) (by simp)) rfl trivial ⟨⟨_, rfl, by decide, (V2_a1.out.keep (by exact Below.new _ _))⟩, ⟨_, rfl, by decide, (N2.out.keep (by exact Below.new _ _))⟩, trivial⟩)) (by simp)).mono ?_
  rintro e w3 ⟨v3, rfl, hr, hb⟩
  obtain ⟨qa3, qc3, qm3, qn3, rfl, -⟩ := hr.inv
  have N3 := Lib.hid (hr.any)
  clear hr
  have HD3 := Lib.hid (show Below w2.heap.size w2 w3 from Below.next (Below.new _ _) hb)
  have V3_a1 := Lib.hid (V2_a1.out.keep HD3.out)
  have V3_b2 := Lib.hid (N2.out.keep HD3.out)
  have HW3 := Lib.hid (Below.next HW2.out HD3.out)
  clear hb HD3 V2_a1 N2 HW2
  go_wp2_with fail
  refine (tpair14 ⟨#[97]⟩ 1 (by unfold i64ok; omega) _).mono ?_
  rintro e w4 ⟨qa4, qc4, qm4, qn4, rfl, hr, hb⟩
  have N4 := Lib.hid hr; clear hr
  have HD4 := Lib.hid (show Below w3.heap.size w3 w4 from hb)
  have V4_a1 := Lib.hid (V3_a1.out.keep HD4.out)
  have V4_b2 := Lib.hid (V3_b2.out.keep HD4.out)
  have V4_A := Lib.hid (N3.out.keep HD4.out)
  have HW4 := Lib.hid (Below.next HW3.out HD4.out)
  clear hb HD4 V3_a1 V3_b2 N3 HW3
  go_wp2_with fail
  refine (tpair14 ⟨#[98]⟩ 3 (by unfold i64ok; omega) _).mono ?_
  rintro e w5 ⟨qa5, qc5, qm5, qn5, rfl, hr, hb⟩
  have N5 := Lib.hid hr; clear hr
  have HD5 := Lib.hid (show Below w4.heap.size w4 w5 from hb)
  have V5_a1 := Lib.hid (V4_a1.out.keep HD5.out)
  have V5_b2 := Lib.hid (V4_b2.out.keep HD5.out)
  have V5_A := Lib.hid (V4_A.out.keep HD5.out)
  have V5_a2 := Lib.hid (N4.out.keep HD5.out)
  have HW5 := Lib.hid (Below.next HW4.out HD5.out)
  clear hb HD5 V4_a1 V4_b2 V4_A N4 HW4
  go_wp2_with fail
  refine (tpair14 ⟨#[99]⟩ 4 (by unfold i64ok; omega) _).mono ?_
  rintro e w6 ⟨qa6, qc6, qm6, qn6, rfl, hr, hb⟩
  have N6 := Lib.hid hr; clear hr
  have HD6 := Lib.hid (show Below w5.heap.size w5 w6 from hb)
  have V6_a1 := Lib.hid (V5_a1.out.keep HD6.out)
  have V6_b2 := Lib.hid (V5_b2.out.keep HD6.out)
  have V6_A := Lib.hid (V5_A.out.keep HD6.out)
  have V6_a2 := Lib.hid (V5_a2.out.keep HD6.out)
  have V6_b3 := Lib.hid (N5.out.keep HD6.out)
  have HW6 := Lib.hid (Below.next HW5.out HD6.out)
  clear hb HD6 V5_a1 V5_b2 V5_A V5_a2 N5 HW5
  go_wp2_with fail
  refine (tmap_is (l := [(⟨#[97]⟩, (tI 1)), (⟨#[98]⟩, (tI 3)), (⟨#[99]⟩, (tI 4))]) (l' := aw14B) (mapT_self aw14_KB) (some ⟨w6.heap.size, 0, none⟩) 3 _ (repE_M.1 (rep_block (E := eltP) (S := fun _ => True) (l := [(⟨#[97]⟩, (tI 1)), (⟨#[98]⟩, (tI 3)), (⟨#[99]⟩, (tI 4))]) [[.string ⟨#[97]⟩, .int .i64 (tI 1).kind, .bool (tI 1).bool, .int .i64 (tI 1).int, .string (tI 1).str, .slice qa4 (tI 1).list.length qc4, .slice qm4 (tI 1).map.length qn4], [.string ⟨#[98]⟩, .int .i64 (tI 3).kind, .bool (tI 3).bool, .int .i64 (tI 3).int, .string (tI 3).str, .slice qa5 (tI 3).list.length qc5, .slice qm5 (tI 3).map.length qn5], [.string ⟨#[99]⟩, .int .i64 (tI 4).kind, .bool (tI 4).bool, .int .i64 (tI 4).int, .string (tI 4).str, .slice qa6 (tI 4).list.length qc6, .slice qm6 (tI 4).map.length qn6]] (Blk.new_at w6 43 #[.string ⟨#[97]⟩, .int .i64 (tI 1).kind, .bool (tI 1).bool, .int .i64 (tI 1).int, .string (tI 1).str, .slice qa4 (tI 1).list.length qc4, .slice qm4 (tI 1).map.length qn4, .string ⟨#[98]⟩, .int .i64 (tI 3).kind, .bool (tI 3).bool, .int .i64 (tI 3).int, .string (tI 3).str, .slice qa5 (tI 3).list.length qc5, .slice qm5 (tI 3).map.length qn5, .string ⟨#[99]⟩, .int .i64 (tI 4).kind, .bool (tI 4).bool, .int .i64 (tI 4).int, .string (tI 4).str, .slice qa6 (tI 4).list.length qc6, .slice qm6 (tI 4).map.length qn6] (n := w6.heap.size) (by simp)) rfl trivial ⟨⟨_, rfl, by decide, (V6_a2.out.keep (by exact Below.new _ _))⟩, ⟨_, rfl, by decide, (V6_b3.out.keep (by exact Below.new _ _))⟩, ⟨_, rfl, by decide, (N6.out.keep (by exact Below.new _ _))⟩, trivial⟩)) (by simp)).mono ?_
  rintro e w7 ⟨v7, rfl, hr, hb⟩
  obtain ⟨qa7, qc7, qm7, qn7, rfl, -⟩ := hr.inv
  have N7 := Lib.hid (hr.any)
  clear hr
  have HD7 := Lib.hid (show Below w6.heap.size w6 w7 from Below.next (Below.new _ _) hb)
  have V7_a1 := Lib.hid (V6_a1.out.keep HD7.out)
  have V7_b2 := Lib.hid (V6_b2.out.keep HD7.out)
  have V7_A := Lib.hid (V6_A.out.keep HD7.out)
  have V7_a2 := Lib.hid (V6_a2.out.keep HD7.out)
  have V7_b3 := Lib.hid (V6_b3.out.keep HD7.out)
  have V7_c4 := Lib.hid (N6.out.keep HD7.out)
  have HW7 := Lib.hid (Below.next HW6.out HD7.out)
  clear hb HD7 V6_a1 V6_b2 V6_A V6_a2 V6_b3 N6 HW6
  go_wp2_with fail
  refine (tpair14 ⟨#[97]⟩ 5 (by unfold i64ok; omega) _).mono ?_
  rintro e w8 ⟨qa8, qc8, qm8, qn8, rfl, hr, hb⟩
  have N8 := Lib.hid hr; clear hr
  have HD8 := Lib.hid (show Below w7.heap.size w7 w8 from hb)
  have V8_a1 := Lib.hid (V7_a1.out.keep HD8.out)
  have V8_b2 := Lib.hid (V7_b2.out.keep HD8.out)
  have V8_A := Lib.hid (V7_A.out.keep HD8.out)
  have V8_a2 := Lib.hid (V7_a2.out.keep HD8.out)
  have V8_b3 := Lib.hid (V7_b3.out.keep HD8.out)
  have V8_c4 := Lib.hid (V7_c4.out.keep HD8.out)
  have V8_B := Lib.hid (N7.out.keep HD8.out)
  have HW8 := Lib.hid (Below.next HW7.out HD8.out)
  clear hb HD8 V7_a1 V7_b2 V7_A V7_a2 V7_b3 V7_c4 N7 HW7
  go_wp2_with fail
  refine (tmap_is (l := [(⟨#[97]⟩, (tI 5))]) (l' := aw14C) (mapT_self aw14_KC) (some ⟨w8.heap.size, 0, none⟩) 1 _ (repE_M.1 (rep_block (E := eltP) (S := fun _ => True) (l := [(⟨#[97]⟩, (tI 5))]) [[.string ⟨#[97]⟩, .int .i64 (tI 5).kind, .bool (tI 5).bool, .int .i64 (tI 5).int, .string (tI 5).str, .slice qa8 (tI 5).list.length qc8, .slice qm8 (tI 5).map.length qn8]] (Blk.new_at w8 43 #[.string ⟨#[97]⟩, .int .i64 (tI 5).kind, .bool (tI 5).bool, .int .i64 (tI 5).int, .string (tI 5).str, .slice qa8 (tI 5).list.length qc8, .slice qm8 (tI 5).map.length qn8] (n := w8.heap.size) (by simp)) rfl trivial ⟨⟨_, rfl, by decide, (N8.out.keep (by exact Below.new _ _))⟩, trivial⟩)) (by simp)).mono ?_
  rintro e w9 ⟨v9, rfl, hr, hb⟩
  obtain ⟨qa9, qc9, qm9, qn9, rfl, -⟩ := hr.inv
  have N9 := Lib.hid (hr.any)
  clear hr
  have HD9 := Lib.hid (show Below w8.heap.size w8 w9 from Below.next (Below.new _ _) hb)
  have V9_a1 := Lib.hid (V8_a1.out.keep HD9.out)
  have V9_b2 := Lib.hid (V8_b2.out.keep HD9.out)
  have V9_A := Lib.hid (V8_A.out.keep HD9.out)
  have V9_a2 := Lib.hid (V8_a2.out.keep HD9.out)
  have V9_b3 := Lib.hid (V8_b3.out.keep HD9.out)
  have V9_c4 := Lib.hid (V8_c4.out.keep HD9.out)
  have V9_B := Lib.hid (V8_B.out.keep HD9.out)
  have V9_a5 := Lib.hid (N8.out.keep HD9.out)
  have HW9 := Lib.hid (Below.next HW8.out HD9.out)
  clear hb HD9 V8_a1 V8_b2 V8_A V8_a2 V8_b3 V8_c4 V8_B N8 HW8
  go_wp2_with fail
  refine (tmerge (na := 3) (nb := 3) (nc := 3) (by omega) (by omega) (by omega) (mkMap aw14C) (mkMap aw14A) (mkMap aw14B) aw14_nC aw14_nA aw14_nB _ _ _ _ _ _ _ (V9_A.out) (V9_B.out) (N9.out)).mono ?_
  rw [aw14_merge]
  rintro e w10 ⟨v10, rfl, hr, hb⟩
  obtain ⟨ra, rc, rm, rn, rfl, hpp⟩ := hr.inv
  have HMM := hpp.2.2.2.2.2.2.2.2.2.2
  obtain ⟨b0, o0, _, _, _, _, rfl, -, hl0, -, ⟨c0, c1, c2, c3, c4, c5, c6⟩, -⟩ := HMM.at_ (i := 0) (by simp [mkMap, T.map, aw14V])
  obtain ⟨b1, o1, _, _, _, _, e1, -, hl1, -, ⟨d0, d1, d2, d3, d4, d5, d6⟩, -⟩ := HMM.at_ (i := 1) (by simp [mkMap, T.map, aw14V])
  obtain ⟨rfl, rfl⟩ : b0 = b1 ∧ o0 = o1 := by simpa using e1
  simp only [Nat.zero_mul, Nat.one_mul, Nat.add_zero] at c0 c1 c2 c3 c4 c5 c6 d0 d1 d2 d3 d4 d5 d6
  have HBE := Lib.hid (Below.next HW9.out hb)
  have hlen : (mkMap aw14V).map.length = 2 := rfl
  clear hr hb hpp HMM e1 c1 c2 c4 c5 c6 d1 d2 d4 d5 d6 
  replace c3 : w10.cell? ⟨b0, o0 + 3, none⟩ = some (.int .i64 5) := c3; replace d0 : w10.cell? ⟨b0, o0 + 7, none⟩ = some (.string ⟨#[99]⟩) := d0; replace d3 : w10.cell? ⟨b0, o0 + 7 + 3, none⟩ = some (.int .i64 4) := d3
  have d3b : w10.cell? ⟨b0, o0 + 10, none⟩ = some (.int .i64 4) := d3
  clear c0
  go_wp2_with fail
  go_ret
  exact ⟨rfl, Below.next HBE.out (Below.new _ _)⟩

end Go.Proofs.Ytmdihildjblgnaa

/- mizzenlaw14.with; what is kept, by counting. -/
namespace Go.Proofs.Ytmdihildjblgnaa
open Go.RowKit
attribute [local go_sem ↓] Go.wp_at_zero Go.wp_at_succ

theorem begins_iff {l m : List ByteArray} : begins l m = true ↔ m <+: l := by
  unfold begins
  rw [decide_eq_true_eq, List.prefix_iff_eq_take]
  constructor
  · rintro ⟨-, h⟩; exact h.symm
  · intro h
    exact ⟨by have := congrArg List.length h; rw [List.length_take] at this; omega, h.symm⟩
theorem aside_any (L : List LeafT) (p : List ByteArray) : aside L p = (!(L.any fun x => begins p x.1) && !(L.any fun x => begins x.1 p)) := by
  rw [Bool.eq_iff_iff, aside_iff, Bool.and_eq_true, Bool.not_eq_true', Bool.not_eq_true', List.any_eq_false, List.any_eq_false]
  simp only [begins_iff]
  exact ⟨fun h => ⟨fun x hx => (h x hx).1, fun x hx => (h x hx).2⟩, fun h x hx => ⟨h.1 x hx, h.2 x hx⟩⟩
theorem any_take {L : List LeafT} (f : LeafT → Bool) {q : Nat} (hq : q < L.length) : (L.take (q + 1)).any f = ((L.take q).any f || f L[q]) := by
  rw [List.take_succ_eq_append_getElem hq, List.any_append]; simp
theorem cut_wt {n k : Nat} {t : T} (ht : Neat k t) : ∀ {a : T}, Neat n a → (t.cut a).wt ≤ a.wt := by
  have hz : ∀ a : T, T.zero.wt ≤ a.wt := fun a => by
    have : T.zero.wt = 1 := by rw [T.wt_eq]; simp [T.zero, T.str, T.list, T.map, T.wtL, T.wtM]; rfl
    rw [this, T.wt_eq]; omega
  induction t using T.ind' with
  | h t ihl ihm =>
    intro a ha
    by_cases h0 : t.map = [] ∨ a.kind ≠ 5
    · rw [cut_none h0]; exact hz a
    · have h5 : a.kind = 5 := Classical.byContradiction fun e => h0 (.inr e)
      rw [cut_is ha ht.KS (fun e => h0 (.inl e)) h5]
      split
      · exact hz a
      · have key : ∀ (l : List (ByteArray × T)), (∀ p ∈ l, p ∈ a.map) → T.wtM (fmap (fun k z => cutl z (look t.map k)) l) ≤ T.wtM l := by
          intro l
          induction l with
          | nil => intro _; exact Nat.le_refl _
          | cons p r ih =>
            intro hl
            have hr := ih fun q hq => hl q (by simp [hq])
            rw [fmap_cons]
            obtain ⟨pk, px⟩ := p
            cases e : cutl px (look t.map pk) with
            | none => simp only [List.nil_append]; rw [T.wtM]; omega
            | some y =>
              simp only [List.singleton_append]
              rw [T.wtM, T.wtM]
              have hy : y.wt ≤ px.wt := by
                cases el : look t.map pk with
                | none => rw [el, cutl] at e; injection e with e; rw [e]; exact Nat.le_refl _
                | some x =>
                  rw [el, cutl] at e
                  split at e
                  · cases e
                  · injection e with e; rw [← e]; exact ihm _ (look_mem el) (ht.look el) (ha.mem (pk, px) (hl _ (by simp)))
              simp only [T.wtP]; omega
        have h1 := key a.map fun p hp => hp
        rw [ha.map h5, T.wt_eq, T.wt_eq]
        have e2 : (mkMap a.map).map = a.map := rfl
        have e3 : (mkMap (fmap (fun k z => cutl z (look t.map k)) a.map)).map = fmap (fun k z => cutl z (look t.map k)) a.map := rfl
        rw [e2, e3]
        simp only [mkMap, T.str, T.list]
        omega

set_option maxRecDepth 100000 in
set_option maxHeartbeats 4000000 in
theorem rwith (L : List LeafT) (p : List ByteArray) (A a : Option Addr) (c d : Nat) (w : World) (S : Nat → Prop) (hL : RepE eltR2 w S A L) (hp : RepS w (fun _ => True) a p) (hLl : L.length ≤ 1000000) (hpl : p.length ≤ 1000000) (hz : ∀ i (hi : i < L.length), L[i].1.length ≤ 1000000) :
    Calls Try.prog 56 #[.slice A L.length c, .slice a p.length d] w fun e w' => e = .returned (.tuple #[.bool (L.any fun x => begins p x.1), .bool (L.any fun x => begins x.1 p)]) ∧ Below w.heap.size w w' := by
  have HL := Lib.hid hL
  have HP := Lib.hid hp
  clear hL hp
  go_enter Try.func56, Try.ntmps56
  go_wp2_with fail
  go_loopw [4, 5, 10] (fun x4 x5 x10 wr => ∃ (q : Nat) (ab bb : Bool), q ≤ L.length ∧ x4 = .bool ab ∧ x5 = .bool bb ∧ x10 = .int .i64 q ∧ Hid (ab = (L.take q).any fun x => begins p x.1) ∧ Hid (bb = (L.take q).any fun x => begins x.1 p) ∧ Hid (Below w.heap.size w wr)) (fun _ _ x _ => L.length - (intOf x).toNat)
  case atStart => exact ⟨0, false, false, Nat.zero_le _, rfl, rfl, rfl, rfl, rfl, Lib.hid (Below.refl _ _)⟩
  case round =>
    obtain ⟨q, ab, bb, hq, rfl, rfl, rfl, HA, HB, HW⟩ := hrel
    by_cases hlt : q < L.length
    case neg =>
      obtain rfl : q = L.length := by omega
      have e1 : ab = L.any fun x => begins p x.1 := by have h := HA.out; rw [List.take_length] at h; exact h
      have e2 : bb = L.any fun x => begins x.1 p := by have h := HB.out; rw [List.take_length] at h; exact h
      have E1 := Lib.hid e1; have E2 := Lib.hid e2
      clear e1 e2 HA HB
      go_wp2_with fail
      go_ret2
      exact ⟨by rw [← E1.out, ← E2.out]; rfl, HW.out⟩
    obtain ⟨b5, o5, sy, syc, ya, yc, ym, yn, rfl, hby, ⟨y0, y1, y2, y3, y4, y5, y6⟩, hys1, hys2, hys, -⟩ := leaf_at (HL.out.keep HW.out) hlt
    have hq1 : (0 : Int) ≤ (q : Int) := by omega
    have hq2 : (q : Int) < (L.length : Int) := by omega
    have VY := Lib.hid (hys.weak (S' := fun _ => True) (fun _ _ => trivial))
    have VP := Lib.hid (HP.out.keep HW.out)
    clear hys
    have hml := hz q hlt
    obtain ⟨r1, hr1⟩ : ∃ r, begins p L[q].1 = r := ⟨_, rfl⟩
    obtain ⟨r2, hr2⟩ : ∃ r, begins L[q].1 p = r := ⟨_, rfl⟩
    have HA2 := Lib.hid (show (ab || r1) = (L.take (q + 1)).any fun x => begins p x.1 from by rw [any_take _ hlt, ← HA.out, hr1])
    have HB2 := Lib.hid (show (bb || r2) = (L.take (q + 1)).any fun x => begins x.1 p from by rw [any_take _ hlt, ← HB.out, hr2])
    have C1 := Lib.hid (fun w2 (h1 : RepS w2 (fun _ => True) a p) (h2 : RepS w2 (fun _ => True) sy L[q].1) => show Calls Try.prog 84 #[.slice a p.length d, .slice sy L[q].1.length syc] w2 (fun e w' => e = .returned (.bool r1) ∧ Below w2.heap.size w2 w') from hr1 ▸ rbegins p L[q].1 a sy d syc w2 h1 h2 hpl)
    have C2 := Lib.hid (fun w2 (h1 : RepS w2 (fun _ => True) sy L[q].1) (h2 : RepS w2 (fun _ => True) a p) => show Calls Try.prog 84 #[.slice sy L[q].1.length syc, .slice a p.length d] w2 (fun e w' => e = .returned (.bool r2) ∧ Below w2.heap.size w2 w') from hr2 ▸ rbegins L[q].1 p sy a syc d w2 h1 h2 hml)
    clear hr1 hr2 HA HB hml
    generalize L[q].1 = m at *
    generalize L[q].2 = z at *
    have HB0 := Lib.hid (Below.refl wr.heap.size wr)
    have HW0 := HW
    clear HW
    cases ab
    · cases bb
      · go_wp2_with fail
        refine (C1.out _ (VP.out.keep (by exact Below.new _ _)) (VY.out.keep (by exact Below.new _ _))).mono ?_
        rintro e w1 ⟨rfl, hb⟩
        have HD1 := Lib.hid (show Below wr.heap.size wr w1 from Below.next (Below.new _ _) hb)
        have L1_0 := Lib.hid ((Blk.new wr 60 #[.slice sy m.length syc, .int .i64 z.kind, .bool z.bool, .int .i64 z.int, .string z.str, .slice ya z.list.length yc, .slice ym z.map.length yn]).keep hb)
        have V1_Y := Lib.hid (VY.out.keep HD1.out)
        have V1_P := Lib.hid (VP.out.keep HD1.out)
        have HW1 := Lib.hid (Below.next HW0.out HD1.out)
        clear hb HD1 VY VP HW0
        have k1_0 := L1_0.out.cell
        have l1_0 := L1_0.out.lt
        go_wp2_with fail
        refine (C2.out _ (V1_Y.out) (V1_P.out)).mono ?_
        rintro e w2 ⟨rfl, hb⟩
        have HD2 := Lib.hid (show Below w1.heap.size w1 w2 from hb)
        have L2_0 := Lib.hid (L1_0.out.keep HD2.out)
        have V2_Y := Lib.hid (V1_Y.out.keep HD2.out)
        have V2_P := Lib.hid (V1_P.out.keep HD2.out)
        have HW2 := Lib.hid (Below.next HW1.out HD2.out)
        clear k1_0 l1_0 hb HD2 L1_0 V1_Y V1_P HW1
        have k2_0 := L2_0.out.cell
        have l2_0 := L2_0.out.lt
        go_wp2_with fail
        go_roundw
        case rel => exact ⟨q + 1, _, _, by omega, rfl, rfl, by go_num, (show Hid (r1 = _) from HA2), (show Hid (r2 = _) from HB2), Lib.hid (HW2.out)⟩
        case measure => simp [intOf]; omega
      · go_wp2_with fail
        refine (C1.out _ (VP.out.keep (by exact Below.new _ _)) (VY.out.keep (by exact Below.new _ _))).mono ?_
        rintro e w1 ⟨rfl, hb⟩
        have HD1 := Lib.hid (show Below wr.heap.size wr w1 from Below.next (Below.new _ _) hb)
        have L1_0 := Lib.hid ((Blk.new wr 60 #[.slice sy m.length syc, .int .i64 z.kind, .bool z.bool, .int .i64 z.int, .string z.str, .slice ya z.list.length yc, .slice ym z.map.length yn]).keep hb)
        have V1_Y := Lib.hid (VY.out.keep HD1.out)
        have V1_P := Lib.hid (VP.out.keep HD1.out)
        have HW1 := Lib.hid (Below.next HW0.out HD1.out)
        clear hb HD1 VY VP HW0
        have k1_0 := L1_0.out.cell
        have l1_0 := L1_0.out.lt
        go_wp2_with fail
        go_roundw
        case rel => exact ⟨q + 1, _, _, by omega, rfl, rfl, by go_num, (show Hid (r1 = _) from HA2), (show Hid (true = _) from HB2), Lib.hid (HW1.out)⟩
        case measure => simp [intOf]; omega
    · cases bb
      · go_wp2_with fail
        refine (C2.out _ (VY.out.keep (by exact Below.new _ _)) (VP.out.keep (by exact Below.new _ _))).mono ?_
        rintro e w1 ⟨rfl, hb⟩
        have HD1 := Lib.hid (show Below wr.heap.size wr w1 from Below.next (Below.new _ _) hb)
        have L1_0 := Lib.hid ((Blk.new wr 60 #[.slice sy m.length syc, .int .i64 z.kind, .bool z.bool, .int .i64 z.int, .string z.str, .slice ya z.list.length yc, .slice ym z.map.length yn]).keep hb)
        have V1_Y := Lib.hid (VY.out.keep HD1.out)
        have V1_P := Lib.hid (VP.out.keep HD1.out)
        have HW1 := Lib.hid (Below.next HW0.out HD1.out)
        clear hb HD1 VY VP HW0
        have k1_0 := L1_0.out.cell
        have l1_0 := L1_0.out.lt
        go_wp2_with fail
        go_roundw
        case rel => exact ⟨q + 1, _, _, by omega, rfl, rfl, by go_num, (show Hid (true = _) from HA2), (show Hid (r2 = _) from HB2), Lib.hid (HW1.out)⟩
        case measure => simp [intOf]; omega
      · go_wp2_with fail
        go_roundw
        case rel => exact ⟨q + 1, _, _, by omega, rfl, rfl, by go_num, (show Hid (true = _) from HA2), (show Hid (true = _) from HB2), Lib.hid (Below.next HW0.out (Below.new _ _))⟩
        case measure => simp [intOf]; omega
end Go.Proofs.Ytmdihildjblgnaa
