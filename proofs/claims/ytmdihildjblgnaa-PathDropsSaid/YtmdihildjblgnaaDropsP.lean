/- PathDrops, plainly: what dropping and pruning at a leaf leave on the way and beside it. -/
import Derived.Test.YtmdihildjblgnaaLeafG
namespace Go.Proofs.Ytmdihildjblgnaa

theorem drop_gone {n : Nat} : ∀ {l : List ByteArray} {v x : T}, Neat n v → l ≠ [] → getP l v = some x → getP l (dropP l v) = none
  | [], v, x, hv, hl, hx => absurd rfl hl
  | [s], v, x, hv, hl, hx => getP_drop_eq hv s []
  | s :: u :: r, v, x, hv, hl, hx => by
    obtain ⟨y, hy, hy2⟩ := getP_some hx
    rw [(dropP_step s u r v).2 (by rw [hy]; rfl), hy, Option.getD_some, getP_put_eq hv]
    exact drop_gone (hv.got hy) (by simp) hy2
theorem drop_other {n : Nat} : ∀ {l m : List ByteArray} {v x z : T}, Neat n v → l ≠ [] → getP l v = some x → x.map = [] → getP m v = some z → z.map = [] → m ≠ l → getP m (dropP l v) = some z
  | [], m, v, x, z, hv, hl, hx, hxm, hz, hzm, hne => absurd rfl hl
  | [s], m, v, x, z, hv, hl, hx, hxm, hz, hzm, hne => by
    obtain ⟨y, hy, hy2⟩ := getP_some hx
    injection hy2 with hy2; subst hy2
    rw [dropP]
    cases m with
    | nil => injection hz with hz; subst hz; exact absurd hzm (getT_map hy)
    | cons t m =>
      by_cases h : t = s
      · subst h
        rw [getP_cons hy] at hz
        obtain ⟨rfl, -⟩ := getP_nomap hxm hz
        exact absurd rfl hne
      · rw [getP_drop_ne hv h]; exact hz
  | s :: u :: r, m, v, x, z, hv, hl, hx, hxm, hz, hzm, hne => by
    obtain ⟨y, hy, hy2⟩ := getP_some hx
    rw [(dropP_step s u r v).2 (by rw [hy]; rfl), hy, Option.getD_some]
    cases m with
    | nil => injection hz with hz; subst hz; exact absurd hzm (getT_map hy)
    | cons t m =>
      by_cases h : t = s
      · subst h
        rw [getP_cons hy] at hz
        rw [getP_put_eq hv]
        exact drop_other (hv.got hy) (by simp) hy2 hxm hz hzm (fun e => hne (by rw [e]))
      · rw [getP_put_ne hv h]; exact hz
/-- Pruned at a leaf: what still stands on the way is no empty map. -/
theorem prune_way {n : Nat} : ∀ {l : List ByteArray} {v x y : T} {i : Nat}, Neat n v → getP l v = some x → 1 ≤ i → i < l.length → getP (l.take i) (pruneP l v) = some y → y.map ≠ []
  | [], v, x, y, i, hv, hx, h1, h2, hy => by simp at h2
  | [s], v, x, y, i, hv, hx, h1, h2, hy => by simp at h2; omega
  | s :: u :: r, v, x, y, i + 1, hv, hx, h1, h2, hy => by
    obtain ⟨z, hz, hz2⟩ := getP_some hx
    rw [pruneP_step s u r v (by rw [hx]; simp), hz, Option.getD_some, List.take_succ_cons] at hy
    split at hy
    · rw [getP_drop_eq hv] at hy; cases hy
    · next hp =>
      rw [getP_put_eq hv] at hy
      cases i with
      | zero => injection hy with hy; subst hy; exact hp
      | succ i => exact prune_way (hv.got hz) hz2 (by omega) (by simpa using h2) hy
/-- Dropped at a leaf: the maps on the way stay. -/
theorem drop_way {n : Nat} : ∀ {l : List ByteArray} {v x : T} {i : Nat}, Neat n v → getP l v = some x → 1 ≤ i → i < l.length → ∃ y, getP (l.take i) (dropP l v) = some y ∧ y.kind = 5
  | [], v, x, i, hv, hx, h1, h2 => by simp at h2
  | [s], v, x, i, hv, hx, h1, h2 => by simp at h2; omega
  | s :: u :: r, v, x, i + 1, hv, hx, h1, h2 => by
    obtain ⟨z, hz, hz2⟩ := getP_some hx
    obtain ⟨z2, hz3, -⟩ := getP_some hz2
    rw [(dropP_step s u r v).2 (by rw [hz]; rfl), hz, Option.getD_some, List.take_succ_cons, getP_put_eq hv]
    cases i with
    | zero => exact ⟨_, rfl, drop_kind (getT_kind hz3) (by simp)⟩
    | succ i => exact drop_way (hv.got hz) hz2 (by omega) (by simpa using h2)
end Go.Proofs.Ytmdihildjblgnaa
