/- The leaves of a value, plainly; put one by one they are the value. -/
import Derived.Test.YtmdihildjblgnaaPath
namespace Go.Proofs.Ytmdihildjblgnaa

abbrev LeafT := List ByteArray × T
mutual
def T.leaves : T → List (List ByteArray × T)
  | .mk k b n s l m => match m with
    | [] => [([], .mk k b n s l m)]
    | _ :: _ => T.leavesM m
def T.leavesM : List (ByteArray × T) → List (List ByteArray × T)
  | [] => []
  | p :: r => T.leavesP p ++ T.leavesM r
def T.leavesP : (ByteArray × T) → List (List ByteArray × T)
  | (k, x) => x.leaves.map fun l => (k :: l.1, l.2)
end
theorem leaves_eq (t : T) : t.leaves = if t.map = [] then [([], t)] else T.leavesM t.map := by
  cases t with
  | mk k b n s l m => cases m <;> rw [T.leaves] <;> simp [T.map]
theorem leavesP_eq (p : ByteArray × T) : T.leavesP p = p.2.leaves.map fun l => (p.1 :: l.1, l.2) := by cases p; rw [T.leavesP]
theorem leavesM_take (m : List (ByteArray × T)) (k : Nat) (h : k < m.length) : T.leavesM (m.take (k + 1)) = T.leavesM (m.take k) ++ T.leavesP m[k] := by
  induction m generalizing k with
  | nil => simp at h
  | cons p r ih =>
    cases k with
    | zero => simp [T.leavesM]
    | succ k => simp only [List.take_succ_cons, T.leavesM, List.getElem_cons_succ]; rw [ih k (by simpa using h), List.append_assoc]
theorem leaves_ne (t : T) : t.leaves ≠ [] := by
  induction t using T.ind' with
  | h t ihl ihm =>
    rw [leaves_eq]
    split
    · simp
    · next h =>
      cases e : t.map with
      | nil => exact absurd e h
      | cons p r =>
        rw [T.leavesM, leavesP_eq]
        have := ihm p (by rw [e]; simp)
        simp [this]
/-- Those of some leaves that begin with a key, behind it. -/
def heads (k : ByteArray) (L : List LeafT) : List LeafT := L.filterMap fun l => match l.1 with
  | [] => none
  | s :: r => if s = k then some (r, l.2) else none
theorem heads_app (k : ByteArray) (L M : List LeafT) : heads k (L ++ M) = heads k L ++ heads k M := List.filterMap_append
theorem heads_P (k : ByteArray) (p : ByteArray × T) : heads k (T.leavesP p) = if p.1 = k then p.2.leaves else [] := by
  rw [leavesP_eq, heads, List.filterMap_map]
  by_cases h : p.1 = k
  · rw [if_pos h]
    have : ((fun l : LeafT => match l.1 with
      | [] => none
      | s :: r => if s = k then some (r, l.2) else none) ∘ fun l : LeafT => (p.1 :: l.1, l.2)) = some := by
      funext l; simp [h]
    rw [this, List.filterMap_some]
  · rw [if_neg h]
    rw [List.filterMap_eq_nil_iff]
    intro l _
    simp [h]
theorem heads_M {m : List (ByteArray × T)} (h : KS m) (k : ByteArray) : heads k (T.leavesM m) = ((look m k).map T.leaves).getD [] := by
  induction m with
  | nil => rfl
  | cons p r ih =>
    rw [T.leavesM, heads_app, heads_P, ih h.tail, look]
    by_cases he : p.1 = k
    · rw [if_pos he, if_pos he, look_not fun q hq e => klt_ne (h.head q hq) (he.trans e.symm)]
      simp
    · rw [if_neg he, if_neg he]; simp
/-- Leaves, put one by one. -/
def putAll (L : List LeafT) (t : T) : T := L.foldl (fun t l => putP l.1 l.2 t) t
theorem putAll_look {n : Nat} : ∀ {L : List LeafT} {t : T}, (∀ l ∈ L, l.1 ≠ []) → (∀ l ∈ L, (∀ s ∈ l.1, keyB s = true) ∧ Neat n l.2) → (∃ m, Neat m t) → t.kind = 5 ∨ L ≠ [] →
    ∃ M, putAll L t = mkMap M ∧ KS M ∧ (∃ m, Neat m (mkMap M)) ∧ ∀ k, look M k = if heads k L = [] then look t.map k else some (putAll (heads k L) ((look t.map k).getD T.zero))
  | [], t, _, _, ⟨m, ht⟩, h => by
    have h5 : t.kind = 5 := by simpa using h
    exact ⟨t.map, ht.map h5, ht.KS, ⟨m, (ht.map h5) ▸ ht⟩, fun k => by rw [if_pos (show heads k [] = [] from rfl)]⟩
  | ([], x) :: L, t, hne, _, _, _ => absurd rfl (hne ([], x) (by simp))
  | (s :: r, x) :: L, t, hne, hn, ⟨m, ht⟩, _ => by
    have hx := hn (s :: r, x) (by simp)
    have hp : Neat (m + n + 1) (putP r x ((getT t s).getD T.zero)) := putP_neat (n := m) (fun z hz => hx.1 z (by simp [hz])) (ht.get s) (hx.2.mono (by omega)) (by omega)
    obtain ⟨M, e, hks, hneat, hlk⟩ := putAll_look (L := L) (t := putT t s (putP r x ((getT t s).getD T.zero))) (fun l hl => hne l (by simp [hl])) (fun l hl => hn l (by simp [hl])) ⟨_, putT_neat ht (hx.1 s (by simp)) hp (by omega)⟩ (.inl rfl)
    refine ⟨M, e, hks, hneat, fun k => ?_⟩
    rw [hlk]
    have hgk : look (putT t s (putP r x ((getT t s).getD T.zero))).map k = if s = k then some (putP r x ((look t.map s).getD T.zero)) else look t.map k := by
      rw [putT_ins ht, getT_look ht]
      exact look_ins _ _ _ ht.KS k
    rw [hgk]
    by_cases he : s = k
    · subst he
      have e2 : heads s ((s :: r, x) :: L) = (r, x) :: heads s L := by simp [heads]
      rw [if_pos rfl, e2, if_neg (show ¬ (r, x) :: heads s L = [] by simp)]
      by_cases hh : heads s L = []
      · rw [if_pos hh, hh]; rfl
      · rw [if_neg hh]; rfl
    · have e2 : heads k ((s :: r, x) :: L) = heads k L := by simp [heads, he]
      rw [if_neg he, e2]
theorem heads_perm {k : ByteArray} {L M : List LeafT} (h : L.Perm M) : (heads k L).Perm (heads k M) := h.filterMap _
theorem leaves_of {n : Nat} {v : T} (h : Neat n v) : ∀ l ∈ v.leaves, (∀ s ∈ l.1, keyB s = true) ∧ Neat n l.2 := by
  induction v using T.ind' with
  | h v ihl ihm =>
    intro l hl
    rw [leaves_eq] at hl
    split at hl
    · obtain rfl : l = ([], v) := by simpa using hl
      exact ⟨by simp, h⟩
    · have : ∀ {m : List (ByteArray × T)}, l ∈ T.leavesM m → ∃ p ∈ m, l ∈ T.leavesP p := by
        intro m
        induction m with
        | nil => intro h; simp [T.leavesM] at h
        | cons p r ih =>
          intro h
          rw [T.leavesM] at h
          rcases List.mem_append.1 h with h | h
          · exact ⟨p, by simp, h⟩
          · obtain ⟨q, hq, h⟩ := ih h; exact ⟨q, by simp [hq], h⟩
      obtain ⟨p, hp, hl⟩ := this hl
      rw [leavesP_eq] at hl
      obtain ⟨l0, hl0, rfl⟩ := List.mem_map.1 hl
      obtain ⟨h1, h2⟩ := ihm p hp (h.mem p hp) l0 hl0
      refine ⟨fun s hs => ?_, h2⟩
      rcases List.mem_cons.1 hs with rfl | hs
      · exact h.key p hp
      · exact h1 s hs
theorem leaves_cons {v : T} (hm : v.map ≠ []) : ∀ l ∈ v.leaves, l.1 ≠ [] := by
  intro l hl
  rw [leaves_eq, if_neg hm] at hl
  have : ∀ {m : List (ByteArray × T)}, l ∈ T.leavesM m → l.1 ≠ [] := by
    intro m
    induction m with
    | nil => intro h; simp [T.leavesM] at h
    | cons p r ih =>
      intro h
      rw [T.leavesM, leavesP_eq] at h
      rcases List.mem_append.1 h with h | h
      · obtain ⟨l0, _, rfl⟩ := List.mem_map.1 h; simp
      · exact ih h
  exact this hl
/-- All leaves of a value, put in any order, are the value. -/
theorem putAll_leaves {n : Nat} {v : T} (h : Neat n v) : ∀ {L : List LeafT}, L.Perm v.leaves → putAll L T.zero = v := by
  induction v using T.ind' with
  | h v ihl ihm =>
    intro L hL
    by_cases hm : v.map = []
    · rw [leaves_eq, if_pos hm] at hL
      rw [List.perm_singleton.1 hL]; rfl
    · have h5 : v.kind = 5 := Classical.byContradiction fun h5 => hm (h.nomap h5)
      have hne : L ≠ [] := fun e => leaves_ne v (by rw [e] at hL; exact hL.nil_eq.symm ▸ rfl)
      obtain ⟨M, e, hks, -, hlk⟩ := putAll_look (n := n) (L := L) (t := T.zero) (fun l hl => leaves_cons hm l (hL.mem_iff.1 hl)) (fun l hl => leaves_of h l (hL.mem_iff.1 hl)) ⟨0, Neat.zero⟩ (.inr hne)
      rw [e, h.map h5]
      congr 1
      refine KS_ext hks h.KS fun k => ?_
      rw [hlk, show T.zero.map = [] from rfl, look]
      have hp := heads_perm (k := k) hL
      rw [leaves_eq, if_neg hm, heads_M h.KS] at hp
      cases ex : look v.map k with
      | none =>
        rw [ex] at hp
        rw [if_pos (List.perm_nil.1 hp)]
      | some x =>
        rw [ex] at hp
        rw [if_neg fun e => leaves_ne x (by rw [e] at hp; exact (List.nil_perm.1 hp))]
        rw [Option.getD_none, ihm _ (look_mem ex) (h.look ex) hp]
end Go.Proofs.Ytmdihildjblgnaa
