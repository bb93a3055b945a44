/- Cut at a byte: strings.Split's pieces, plainly. -/
import Derived.Lib.Split
import Derived.Lib.IndexBytes
namespace Go.Proofs.YtdgeegfoocoohaaDoor

/-- A text's pieces between the bytes b. -/
def splitL (b : UInt8) : List UInt8 → List (List UInt8)
  | [] => [[]]
  | c :: r => if c = b then [] :: splitL b r else match splitL b r with
    | [] => [[c]]
    | p :: ps => (c :: p) :: ps
theorem splitL_ne (b : UInt8) (l : List UInt8) : splitL b l ≠ [] := by
  cases l with
  | nil => simp [splitL]
  | cons c r =>
    rw [splitL]
    split
    · simp
    · split <;> simp
theorem splitL_no {b : UInt8} : ∀ {l : List UInt8}, b ∉ l → splitL b l = [l]
  | [], _ => rfl
  | c :: r, h => by
    have h1 : c ≠ b := fun e => h (by simp [e])
    have h2 : b ∉ r := fun e => h (by simp [e])
    rw [splitL, if_neg h1, splitL_no h2]
theorem splitL_app {b : UInt8} : ∀ {p : List UInt8} (r : List UInt8), b ∉ p → splitL b (p ++ b :: r) = p :: splitL b r
  | [], r, _ => by simp [splitL]
  | c :: p, r, h => by
    have h1 : c ≠ b := fun e => h (by simp [e])
    have h2 : b ∉ p := fun e => h (by simp [e])
    rw [List.cons_append, splitL, if_neg h1, splitL_app r h2]
theorem index_split (b : UInt8) : ∀ (l : List UInt8), (b ∉ l ∧ Lib.index l [b] = -1) ∨ (∃ p r, l = p ++ b :: r ∧ b ∉ p ∧ Lib.index l [b] = p.length)
  | [] => .inl ⟨by simp, rfl⟩
  | c :: l => by
    by_cases h : c = b
    · refine .inr ⟨[], l, by simp [h], by simp, ?_⟩
      simp [Lib.index, h]
    · have hp : List.isPrefixOf [b] (c :: l) = false := by simp [List.isPrefixOf]; exact fun e => h e.symm
      rcases index_split b l with ⟨h1, h2⟩ | ⟨p, r, e, h1, h2⟩
      · exact .inl ⟨by simp [h1]; exact fun e => h e.symm, by rw [Lib.index, hp, h2]; rfl⟩
      · refine .inr ⟨c :: p, r, by rw [e]; rfl, by simp [h1]; exact fun e => h e.symm, ?_⟩
        rw [Lib.index, hp, h2]
        have : ((p.length : Int) == -1) = false := by rw [beq_eq_false_iff_ne]; omega
        rw [this]; simp
theorem count_one (b : UInt8) : ∀ (fuel : Nat) (l : List UInt8), l.length < fuel → Lib.countFrom [b] fuel l = l.count b
  | 0, l, h => by omega
  | fuel + 1, l, h => by
    rw [Lib.countFrom]
    rcases index_split b l with ⟨h1, h2⟩ | ⟨p, r, e, h1, h2⟩
    · rw [h2, List.count_eq_zero_of_not_mem h1]; rfl
    · have hb : ((p.length : Int) == -1) = false := by rw [beq_eq_false_iff_ne]; omega
      rw [h2, hb]
      have e2 : l.drop ((p.length : Int).toNat + [b].length) = r := by rw [e]; simp
      rw [e2, count_one b fuel r (by rw [e] at h; simp at h; omega), e, List.count_append, List.count_cons_self, List.count_eq_zero_of_not_mem h1]
      simp; omega
theorem splitK_one (b : UInt8) : ∀ (k : Nat) (l : List UInt8), l.count b ≤ k → Lib.splitK [b] 0 k l = splitL b l
  | 0, l, h => by
    have : b ∉ l := fun hm => by have := List.count_pos_iff.2 hm; omega
    rw [splitL_no this]; rfl
  | k + 1, l, h => by
    rw [Lib.splitK]
    rcases index_split b l with ⟨h1, h2⟩ | ⟨p, r, e, h1, h2⟩
    · rw [h2, splitL_no h1]; rfl
    · have hb : ((p.length : Int) == -1) = false := by rw [beq_eq_false_iff_ne]; omega
      rw [h2, hb]
      have e2 : l.drop ((p.length : Int).toNat + [b].length) = r := by rw [e]; simp
      have e3 : l.take ((p.length : Int).toNat + 0) = p := by rw [e]; simp
      have hk : r.count b ≤ k := by rw [e, List.count_append, List.count_cons_self] at h; omega
      rw [e2, e3, splitK_one b k r hk, e, splitL_app r h1]; rfl
theorem splitB_one (b : UInt8) (s : ByteArray) : Lib.splitB ⟨#[b]⟩ 0 (Lib.countB s ⟨#[b]⟩) s = (splitL b s.data.toList).map (fun l => ⟨l.toArray⟩) ∧ Lib.countB s ⟨#[b]⟩ + 1 = (splitL b s.data.toList).length := by
  have hc : Lib.countB s ⟨#[b]⟩ = s.data.toList.count b := count_one b _ _ (Nat.lt_succ_self _)
  have h1 := Lib.splitB_data ⟨#[b]⟩ 0 (Lib.countB s ⟨#[b]⟩) s
  have h2 : Lib.splitK (⟨#[b]⟩ : ByteArray).data.toList 0 (Lib.countB s ⟨#[b]⟩) s.data.toList = splitL b s.data.toList := splitK_one b _ _ (by omega)
  rw [h2] at h1
  refine ⟨?_, ?_⟩
  · rw [← h1, List.map_map]
    conv => lhs; rw [← List.map_id (Lib.splitB _ _ _ _)]
    apply List.map_congr_left
    intro x _; rfl
  · rw [hc]
    have : ∀ l : List UInt8, (splitL b l).length = l.count b + 1 := by
      intro l
      induction l with
      | nil => rfl
      | cons c r ih =>
        rw [splitL]
        by_cases h : c = b
        · rw [if_pos h, h, List.count_cons_self, List.length_cons, ih]
        · rw [if_neg h, List.count_cons_of_ne (fun e => h e)]
          cases hs : splitL b r with
          | nil => exact absurd hs (splitL_ne b r)
          | cons p ps => rw [hs] at ih; simpa using ih
    exact (this _).symm
end Go.Proofs.YtdgeegfoocoohaaDoor
