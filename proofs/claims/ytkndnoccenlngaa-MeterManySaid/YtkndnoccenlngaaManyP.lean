/- MeterMany, plainly: the six numbers hang on what was counted alone, in whatever order. -/
import Derived.Test.YtkndnoccenlngaaPlays
namespace Go.Proofs.Ytkndnoccenlngaa
open Go.RowKit

def cntOf (xs : List Int) (k : Int) : Int := ((xs.count k : Nat) : Int)
def maxOf (xs : List Int) : Int := xs.foldl max 0
/-- The numbers behind counting and noting each of xs. -/
def stat (xs : List Int) : List Int := [cntOf xs 0, cntOf xs 1, cntOf xs 2, cntOf xs 3, cntOf xs 4, maxOf xs]
theorem stat_len (xs : List Int) : (stat xs).length = 6 := rfl
theorem stat_nil : stat [] = zeros := rfl
theorem cnt_le (xs : List Int) (k : Int) : 0 ≤ cntOf xs k ∧ cntOf xs k ≤ xs.length := by
  have := List.count_le_length (a := k) (l := xs)
  unfold cntOf; omega
theorem cnt_snoc (xs : List Int) (x k : Int) : cntOf (xs ++ [x]) k = cntOf xs k + if x = k then 1 else 0 := by
  unfold cntOf
  rw [List.count_append, List.count_singleton]
  by_cases h : x = k
  · simp [h]
  · simp [h]
theorem max_snoc (xs : List Int) (x : Int) : maxOf (xs ++ [x]) = max (maxOf xs) x := by unfold maxOf; rw [List.foldl_append]; rfl
theorem maxOf_pos (xs : List Int) : 0 ≤ maxOf xs := by
  unfold maxOf
  have : ∀ (l : List Int) (a : Int), 0 ≤ a → 0 ≤ l.foldl max a := by
    intro l
    induction l with
    | nil => intro a h; exact h
    | cons y r ih => intro a h; exact ih _ (by omega)
  exact this xs 0 (by omega)
theorem stat_snoc (xs : List Int) (x : Int) (h : xs.length ≤ 1000000) : seeF (addF (stat xs) x) x = stat (xs ++ [x]) := by
  have hw : ∀ k, wrap64 (cntOf xs k + 1) = cntOf xs k + 1 := fun k => by
    have := cnt_le xs k
    unfold wrap64; omega
  have hst : stat (xs ++ [x]) = [cntOf xs 0 + (if x = 0 then 1 else 0), cntOf xs 1 + (if x = 1 then 1 else 0), cntOf xs 2 + (if x = 2 then 1 else 0), cntOf xs 3 + (if x = 3 then 1 else 0), cntOf xs 4 + (if x = 4 then 1 else 0), max (maxOf xs) x] := by
    unfold stat; simp only [cnt_snoc, max_snoc]
  rw [hst]
  unfold seeF addF
  by_cases hk : 0 ≤ x ∧ x < 5
  · rw [if_pos hk]
    have : x = 0 ∨ x = 1 ∨ x = 2 ∨ x = 3 ∨ x = 4 := by omega
    rcases this with rfl | rfl | rfl | rfl | rfl <;> simp [stat, hw]
  · rw [if_neg hk]
    have h0 : x ≠ 0 := by omega
    have h1 : x ≠ 1 := by omega
    have h2 : x ≠ 2 := by omega
    have h3 : x ≠ 3 := by omega
    have h4 : x ≠ 4 := by omega
    simp [stat, h0, h1, h2, h3, h4]
theorem maxOf_perm {xs ys : List Int} (h : xs.Perm ys) : maxOf xs = maxOf ys := by
  unfold maxOf
  exact h.foldl_eq' (fun x _ y _ z => by omega) 0
theorem stat_perm {xs ys : List Int} (h : xs.Perm ys) : stat xs = stat ys := by
  unfold stat cntOf
  rw [maxOf_perm h, h.count_eq, h.count_eq, h.count_eq, h.count_eq, h.count_eq]

/-- What has been taken off the lists. -/
def taken : List Nat → List (List Int) → List Int
  | n :: ns, l :: ls => l.take n ++ taken ns ls
  | _, _ => []
theorem taken_set : ∀ (ns : List Nat) (ls : List (List Int)) (i : Nat) (h1 : i < ns.length) (h2 : i < ls.length) (h3 : ns[i] < ls[i].length),
    (taken (ns.set i (ns[i] + 1)) ls).Perm (taken ns ls ++ [ls[i][ns[i]]])
  | n :: ns, l :: ls, 0, _, _, h3 => by
    have h3 : n < l.length := h3
    show (l.take (n + 1) ++ taken ns ls).Perm (l.take n ++ taken ns ls ++ [l[n]])
    rw [List.take_succ_eq_append_getElem h3, List.append_assoc, List.append_assoc]
    exact List.Perm.append_left _ List.perm_append_comm
  | n :: ns, l :: ls, i + 1, h1, h2, h3 => by
    show (l.take n ++ taken (ns.set i (ns[i]'(by simpa using h1) + 1)) ls).Perm (l.take n ++ taken ns ls ++ [_])
    rw [List.append_assoc]
    exact List.Perm.append_left _ (taken_set ns ls i (by simpa using h1) (by simpa using h2) h3)
  | [], _, i, h1, _, _ => absurd h1 (by simp)
  | _ :: _, [], i, _, h2, _ => absurd h2 (by simp)
theorem taken_zero : ∀ (ls : List (List Int)) (n : Nat), taken (List.replicate n 0) ls = []
  | [], 0 => rfl
  | [], n + 1 => rfl
  | _ :: _, 0 => rfl
  | l :: ls, n + 1 => by
    rw [List.replicate_succ, taken, taken_zero ls n]; simp
theorem taken_full : ∀ (ns : List Nat) (ls : List (List Int)), ns.length = ls.length → (∀ i (h : i < ns.length) (h2 : i < ls.length), ns[i] = ls[i].length) → taken ns ls = ls.flatten
  | [], [], _, _ => rfl
  | n :: ns, l :: ls, h, hf => by
    have h0 : n = l.length := hf 0 (by simp) (by simp)
    rw [taken, List.flatten_cons, h0, List.take_length, taken_full ns ls (by simpa using h) fun i h1 h2 => hf (i + 1) (by simpa using h1) (by simpa using h2)]
  | [], _ :: _, h, _ => by simp at h
  | _ :: _, [], h, _ => by simp at h
theorem taken_len : ∀ (ns : List Nat) (ls : List (List Int)), (taken ns ls).length ≤ ls.flatten.length
  | [], _ => by simp [taken]
  | _ :: _, [] => by simp [taken]
  | n :: ns, l :: ls => by
    have := taken_len ns ls
    simp only [taken, List.flatten_cons, List.length_append, List.length_take]
    omega
theorem flat_len : ∀ (ls : List (List Int)) (n : Nat), (∀ l ∈ ls, l.length ≤ n) → ls.flatten.length ≤ n * ls.length
  | [], _, _ => by simp
  | l :: ls, n, h => by
    have h1 := flat_len ls n fun x hx => h x (List.mem_cons_of_mem _ hx)
    have h2 := h l List.mem_cons_self
    simp only [List.flatten_cons, List.length_append, List.length_cons, Nat.mul_succ]
    omega
theorem flat_take (ls : List (List Int)) {q : Nat} (h : q < ls.length) : (ls.take (q + 1)).flatten = (ls.take q).flatten ++ ls[q] := by
  rw [List.take_succ_eq_append_getElem h, List.flatten_append]; simp only [List.flatten_cons, List.flatten_nil, List.append_nil]

/-- One more off list i, if any is left. -/
def bump (ns : List Nat) (ls : List (List Int)) (i : Nat) : List Nat := if ns.getD i 0 < (ls.getD i []).length then ns.set i (ns.getD i 0 + 1) else ns
/-- So many as are there, at most. -/
def Fit (ns : List Nat) (ls : List (List Int)) : Prop := ns.length = ls.length ∧ ∀ i, ns.getD i 0 ≤ (ls.getD i []).length
section
variable {ns : List Nat} {ls : List (List Int)} {i : Nat}
theorem getD_lt {α : Type} (l : List α) (d : α) {i : Nat} (h : i < l.length) : l.getD i d = l[i] := by simp [List.getD_eq_getElem?_getD, h]
theorem bump_len : (bump ns ls i).length = ns.length := by unfold bump; split <;> simp
theorem bump_get (h : i < ns.length) (j : Nat) : (bump ns ls i).getD j 0 = if j = i ∧ ns.getD i 0 < (ls.getD i []).length then ns.getD i 0 + 1 else ns.getD j 0 := by
  unfold bump
  by_cases hc : ns.getD i 0 < (ls.getD i []).length
  · rw [if_pos hc]
    by_cases hj : j = i
    · subst hj
      rw [if_pos ⟨rfl, hc⟩]
      simp only [List.getD_eq_getElem?_getD, List.getElem?_set_self h]; rfl
    · rw [if_neg (fun e => hj e.1)]
      simp only [List.getD_eq_getElem?_getD, List.getElem?_set_ne (Ne.symm hj)]
  · rw [if_neg hc, if_neg (fun e => hc e.2)]
theorem Fit.bump (h : Fit ns ls) (hi : i < ls.length) : Fit (bump ns ls i) ls := by
  refine ⟨by rw [bump_len]; exact h.1, fun j => ?_⟩
  rw [bump_get (by rw [h.1]; exact hi)]
  split
  · next e => rw [e.1]; have := e.2; omega
  · exact h.2 j
theorem taken_bump (h : Fit ns ls) (hi : i < ls.length) (hc : ns.getD i 0 < (ls.getD i []).length) : stat (taken (Go.Proofs.Ytkndnoccenlngaa.bump ns ls i) ls) = stat (taken ns ls ++ [(ls.getD i []).getD (ns.getD i 0) 0]) := by
  have hn : i < ns.length := by rw [h.1]; exact hi
  have e1 := getD_lt ns 0 hn
  have e2 := getD_lt ls [] hi
  unfold Go.Proofs.Ytkndnoccenlngaa.bump
  rw [if_pos hc]
  rw [e1, e2] at hc ⊢
  rw [getD_lt _ _ hc]
  exact stat_perm (taken_set ns ls i hn hi hc)
end
end Go.Proofs.Ytkndnoccenlngaa
