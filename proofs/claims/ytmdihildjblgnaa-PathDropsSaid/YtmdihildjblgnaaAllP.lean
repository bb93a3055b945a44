/- PathAll, plainly: pruned at all leaves a value is empty; dropped at them it has maps alone. -/
import Derived.Test.YtmdihildjblgnaaLeafG
import Derived.Test.YtmdihildjblgnaaLeavesL
namespace Go.Proofs.Ytmdihildjblgnaa

theorem leaves_pw {n : Nat} {v : T} (hv : Neat n v) : v.leaves.Pairwise (fun a b => a.1 ≠ b.1) := by
  induction v using T.ind' with
  | h v ihl ihm =>
    rw [leaves_eq]
    split
    · exact List.pairwise_singleton _ _
    · have key : ∀ {m : List (ByteArray × T)}, KS m → (∀ p ∈ m, p.2.leaves.Pairwise (fun a b => a.1 ≠ b.1)) → (T.leavesM m).Pairwise (fun a b => a.1 ≠ b.1) ∧ ∀ l ∈ T.leavesM m, ∃ p ∈ m, ∃ r, l.1 = p.1 :: r := by
        intro m
        induction m with
        | nil => intro _ _; exact ⟨List.Pairwise.nil, by simp [T.leavesM]⟩
        | cons p q ih =>
          intro hks hp
          obtain ⟨h1, h2⟩ := ih hks.tail fun p h => hp p (by simp [h])
          rw [T.leavesM, leavesP_eq]
          refine ⟨List.pairwise_append.2 ⟨?_, h1, ?_⟩, fun l hl => ?_⟩
          · rw [List.pairwise_map]
            exact (hp p (by simp)).imp fun h e => h (by injection e)
          · intro a ha b hb e
            obtain ⟨l0, _, rfl⟩ := List.mem_map.1 ha
            obtain ⟨p2, hp2, r, e2⟩ := h2 b hb
            rw [e2] at e
            injection e with e
            exact klt_ne (hks.head p2 hp2) e
          · rcases List.mem_append.1 hl with hl | hl
            · obtain ⟨l0, _, rfl⟩ := List.mem_map.1 hl
              exact ⟨p, by simp, l0.1, rfl⟩
            · obtain ⟨p2, hp2, r, e⟩ := h2 l hl
              exact ⟨p2, by simp [hp2], r, e⟩
      exact (key hv.KS fun p hp => ihm p hp (hv.mem p hp)).1
theorem wt_del (m : List (ByteArray × T)) (k : ByteArray) : T.wtM (del m k) ≤ T.wtM m := by
  induction m with
  | nil => exact Nat.le_refl _
  | cons p r ih =>
    unfold del at ih ⊢
    rw [List.filter_cons]
    split
    · rw [T.wtM, T.wtM]; omega
    · rw [T.wtM]; omega
theorem wt_ins {m : List (ByteArray × T)} (hm : KS m) {k : ByteArray} {x y : T} (hx : look m k = some x) (hy : y.wt ≤ x.wt) : T.wtM (ins m k y) ≤ T.wtM m := by
  induction m with
  | nil => cases hx
  | cons p r ih =>
    rw [ins]
    rw [look] at hx
    split at hx
    · next he =>
      injection hx with hx
      subst he hx
      rw [if_neg (by simp [klt_irrefl]), if_pos rfl]
      obtain ⟨k, x⟩ := p
      simp only [T.wtM, T.wtP] at *; omega
    · next he =>
      rw [if_pos (hm.head _ (look_mem hx))]
      have := ih hm.tail hx
      rw [T.wtM, T.wtM]; omega
theorem wt_mk (m : List (ByteArray × T)) : (mkMap m).wt = 1 + T.wtM m + (mkMap []).wt - 1 - T.wtM [] := by
  rw [T.wt_eq, T.wt_eq (mkMap [])]
  simp only [mkMap, T.map, T.list, T.str]
  omega
theorem dropP_wt {n : Nat} : ∀ {l : List ByteArray} {v : T}, Neat n v → (dropP l v).wt ≤ v.wt ∨ l = []
  | [], v, _ => .inr rfl
  | [s], v, hv => by
    left
    rw [dropP, T.wt_eq, T.wt_eq v]
    have := wt_del v.map s
    show 1 + v.str.size + T.wtL v.list + T.wtM (del v.map s) ≤ _
    omega
  | s :: u :: r, v, hv => by
    left
    cases e : getT v s with
    | none => rw [(dropP_step s u r v).1 (by rw [e]; rfl)]; exact Nat.le_refl _
    | some y =>
      rw [(dropP_step s u r v).2 (by rw [e]; rfl), e, Option.getD_some, putT_ins hv]
      have h1 : (dropP (u :: r) y).wt ≤ y.wt := (dropP_wt (hv.got e)).resolve_right (by simp)
      have h5 := getT_kind e
      rw [getT_look hv] at e
      have h2 := wt_ins hv.KS e h1
      rw [hv.map h5, show (mkMap v.map).map = v.map from rfl, wt_mk, wt_mk v.map]
      omega

def prA (L : List LeafT) (t : T) : T := L.foldl (fun t l => pruneW l.1 t) t
def drA (L : List LeafT) (t : T) : T := L.foldl (fun t l => dropP l.1 t) t
theorem prA_snoc (L : List LeafT) (l : LeafT) (t : T) : prA (L ++ [l]) t = pruneW l.1 (prA L t) := by unfold prA; rw [List.foldl_append]; rfl
theorem drA_snoc (L : List LeafT) (l : LeafT) (t : T) : drA (L ++ [l]) t = dropP l.1 (drA L t) := by unfold drA; rw [List.foldl_append]; rfl
section
variable {n : Nat} {v : T} {R : List LeafT}
theorem prA_inv (hv : Neat n v) (h5 : v.kind = 5) (hm : v.map ≠ []) (hR : R.Perm v.leaves) : ∀ q, q ≤ R.length →
    Neat n (prA (R.take q) v) ∧ (prA (R.take q) v).kind = 5 ∧ (∀ i (h : i < R.length), q ≤ i → getP R[i].1 (prA (R.take q) v) = some R[i].2) ∧
    ((prA (R.take q) v).map ≠ [] → ∀ m z, getP m (prA (R.take q) v) = some z → z.map = [] → ∃ i, q ≤ i ∧ ∃ h : i < R.length, R[i].1 = m) := by
  have hmem : ∀ i (h : i < R.length), getP R[i].1 v = some R[i].2 ∧ R[i].2.map = [] ∧ R[i].1 ≠ [] := fun i h => by
    have h1 := hR.mem_iff.1 (List.getElem_mem h)
    have h2 := (mem_leaves hv R[i].1 R[i].2).1 h1
    exact ⟨h2.1, h2.2, leaves_cons hm _ h1⟩
  have hpw : R.Pairwise (fun a b => a.1 ≠ b.1) := (hR.pairwise_iff (fun h e => h e.symm)).2 (leaves_pw hv)
  intro q
  induction q with
  | zero =>
    intro _
    refine ⟨hv, h5, fun i h _ => (hmem i h).1, fun _ m z hz hzm => ?_⟩
    have h1 := hR.mem_iff.2 ((mem_leaves hv m z).2 ⟨hz, hzm⟩)
    obtain ⟨i, hi, e⟩ := List.getElem_of_mem h1
    exact ⟨i, Nat.zero_le _, hi, by rw [e]⟩
  | succ q ih =>
    intro hq
    obtain ⟨a, b, c, d⟩ := ih (by omega)
    have hx := c q (by omega) (Nat.le_refl _)
    obtain ⟨-, hxm, hxn⟩ := hmem q (by omega)
    rw [List.take_succ_eq_append_getElem (show q < R.length by omega), prA_snoc, prune_one a]
    refine ⟨pruneP_neat a, prune_kind b hxn, fun i h hqi => ?_, fun hp m z hz hzm => ?_⟩
    · exact prune_other a hx hxm (c i h (by omega)) (hmem i h).2.1 (fun e => (List.pairwise_iff_getElem.1 hpw q i (by omega) h (by omega)) e.symm)
    · obtain ⟨h1, h2⟩ := prune_back a hxn hx hp hz hzm
      have hne : (prA (R.take q) v).map ≠ [] := by
        cases e : R[q].1 with
        | nil => exact absurd e hxn
        | cons s r => rw [e] at hx; obtain ⟨y, hy, -⟩ := getP_some hx; exact getT_map hy
      obtain ⟨i, hi, hi2, e⟩ := d hne m z h1 hzm
      refine ⟨i, ?_, hi2, e⟩
      rcases Nat.lt_or_ge q i with h | h
      · exact h
      · obtain rfl : i = q := by omega
        exact absurd e.symm h2
theorem prA_end (hv : Neat n v) (h5 : v.kind = 5) (hm : v.map ≠ []) (hR : R.Perm v.leaves) : (prA R v).kind = 5 ∧ (prA R v).map = [] := by
  obtain ⟨a, b, c, d⟩ := prA_inv hv h5 hm hR R.length (Nat.le_refl _)
  rw [List.take_length] at a b d
  refine ⟨b, Classical.byContradiction fun hne => ?_⟩
  cases e : (prA R v).leaves with
  | nil => exact leaves_ne _ e
  | cons l L =>
    obtain ⟨m, z⟩ := l
    obtain ⟨h1, h2⟩ := (mem_leaves a m z).1 (by rw [e]; simp)
    obtain ⟨i, hi, hi2, -⟩ := d hne m z h1 h2
    omega
theorem drA_inv (hv : Neat n v) (h5 : v.kind = 5) (hm : v.map ≠ []) (hR : R.Perm v.leaves) : ∀ q, q ≤ R.length →
    Neat n (drA (R.take q) v) ∧ (drA (R.take q) v).kind = 5 ∧ (drA (R.take q) v).wt ≤ v.wt ∧
    (∀ m z, getP m (drA (R.take q) v) = some z → z.map = [] → z.kind = 5 ∨ ∃ i, q ≤ i ∧ ∃ h : i < R.length, R[i].1 = m) := by
  intro q
  induction q with
  | zero =>
    intro _
    refine ⟨hv, h5, Nat.le_refl _, fun m z hz hzm => ?_⟩
    have h1 := hR.mem_iff.2 ((mem_leaves hv m z).2 ⟨hz, hzm⟩)
    obtain ⟨i, hi, e⟩ := List.getElem_of_mem h1
    exact .inr ⟨i, Nat.zero_le _, hi, by rw [e]⟩
  | succ q ih =>
    intro hq
    obtain ⟨a, b, c, d⟩ := ih (by omega)
    have hxn : R[q].1 ≠ [] := leaves_cons hm _ (hR.mem_iff.1 (List.getElem_mem (show q < R.length by omega)))
    rw [List.take_succ_eq_append_getElem (show q < R.length by omega), drA_snoc]
    refine ⟨dropP_neat a, drop_kind b hxn, Nat.le_trans ((dropP_wt a).resolve_right hxn) c, fun m z hz hzm => ?_⟩
    rcases drop_back a hxn b hz hzm with h | ⟨h1, h2⟩
    · exact .inl h
    · rcases d m z h1 hzm with h | ⟨i, hi, hi2, e⟩
      · exact .inl h
      · refine .inr ⟨i, ?_, hi2, e⟩
        rcases Nat.lt_or_ge q i with h | h
        · exact h
        · obtain rfl : i = q := by omega
          exact absurd e.symm h2
theorem drA_end (hv : Neat n v) (h5 : v.kind = 5) (hm : v.map ≠ []) (hR : R.Perm v.leaves) : Neat n (drA R v) ∧ (drA R v).kind = 5 ∧ (drA R v).wt ≤ v.wt ∧ ∀ l ∈ (drA R v).leaves, l.2.kind = 5 := by
  obtain ⟨a, b, c, d⟩ := drA_inv hv h5 hm hR R.length (Nat.le_refl _)
  rw [List.take_length] at a b c d
  refine ⟨a, b, c, fun l hl => ?_⟩
  obtain ⟨h1, h2⟩ := (mem_leaves a l.1 l.2).1 hl
  rcases d l.1 l.2 h1 h2 with h | ⟨i, hi, hi2, -⟩
  · exact h
  · omega
end
end Go.Proofs.Ytmdihildjblgnaa
