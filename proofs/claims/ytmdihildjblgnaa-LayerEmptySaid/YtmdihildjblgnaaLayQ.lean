/- Layers, further: the reference's way to lay one map over another one; what the laws ask. -/
import Derived.Test.YtmdihildjblgnaaLayP
namespace Go.Proofs.Ytmdihildjblgnaa

/-- A pair of the upper map, laid. -/
def mrgP (p : ByteArray × T) (was : T) : List (ByteArray × T) := if p.2.kind = 0 then [] else [(p.1, p.2.over was)]
/-- Two rows made one, key by key. -/
def mrg : List (ByteArray × T) → List (ByteArray × T) → List (ByteArray × T)
  | xs, [] => xs
  | [], p :: ys => mrgP p T.zero ++ mrg [] ys
  | q :: xs, p :: ys => if klt q.1 p.1 then q :: mrg xs (p :: ys) else if q.1 = p.1 then mrgP p q.2 ++ mrg xs ys else mrgP p T.zero ++ mrg (q :: xs) ys
termination_by xs ys => xs.length + ys.length
theorem mrg_nil (xs : List (ByteArray × T)) : mrg xs [] = xs := by cases xs <;> rw [mrg]
theorem mrgP_mem {p z : ByteArray × T} {was : T} (h : z ∈ mrgP p was) : z.1 = p.1 := by
  unfold mrgP at h
  split at h
  · cases h
  · simp at h; rw [h]
theorem mrgP_look (p : ByteArray × T) (was : T) (r : List (ByteArray × T)) (k : ByteArray) : look (mrgP p was ++ r) k = if p.1 = k then (if p.2.kind = 0 then look r k else some (p.2.over was)) else look r k := by
  unfold mrgP
  by_cases h0 : p.2.kind = 0
  · rw [if_pos h0, if_pos h0]; simp
  · rw [if_neg h0, if_neg h0, List.singleton_append, look]
theorem mrgP_KS {p : ByteArray × T} {was : T} {r : List (ByteArray × T)} (h : KS r) (hp : ∀ q ∈ r, klt p.1 q.1 = true) : KS (mrgP p was ++ r) := by
  unfold mrgP
  split
  · exact h
  · exact KS_cons h hp
theorem mrg_all (n : Nat) : ∀ {xs ys : List (ByteArray × T)}, xs.length + ys.length ≤ n → KS xs → KS ys →
    (∀ z ∈ mrg xs ys, (∃ q ∈ xs, q.1 = z.1) ∨ ∃ p ∈ ys, p.1 = z.1) ∧ KS (mrg xs ys) ∧ ∀ k, look (mrg xs ys) k = ovl (look xs k) (look ys k) := by
  induction n with
  | zero =>
    intro xs ys hn ha hb
    obtain rfl : xs = [] := List.length_eq_zero_iff.1 (by omega)
    obtain rfl : ys = [] := List.length_eq_zero_iff.1 (by omega)
    rw [mrg]
    exact ⟨by simp, KS.nil, fun k => rfl⟩
  | succ n ih =>
    intro xs ys hn ha hb
    match xs, ys with
    | xs, [] =>
      rw [mrg_nil]
      exact ⟨fun z hz => .inl ⟨z, hz, rfl⟩, ha, fun k => rfl⟩
    | [], p :: ys =>
      rw [mrg]
      obtain ⟨h1, h2, h3⟩ := ih (xs := []) (ys := ys) (by simp at hn ⊢; omega) ha hb.tail
      refine ⟨fun z hz => ?_, mrgP_KS h2 fun z hz => ?_, fun k => ?_⟩
      · rcases List.mem_append.1 hz with hz | hz
        · exact .inr ⟨p, by simp, (mrgP_mem hz).symm⟩
        · rcases h1 z hz with ⟨q, hq, _⟩ | ⟨q, hq, e⟩
          · cases hq
          · exact .inr ⟨q, by simp [hq], e⟩
      · rcases h1 z hz with ⟨q, hq, _⟩ | ⟨q, hq, e⟩
        · cases hq
        · rw [← e]; exact hb.head q hq
      · rw [mrgP_look, h3, look.eq_def (p :: ys)]
        simp only
        by_cases he : p.1 = k
        · rw [if_pos he, if_pos he, look_not (m := ys) fun q hq e => klt_ne (hb.head q hq) (he.trans e.symm)]
          rfl
        · rw [if_neg he, if_neg he]
    | q :: xs, p :: ys =>
      rw [mrg]
      by_cases hk : klt q.1 p.1 = true
      · rw [if_pos hk]
        obtain ⟨h1, h2, h3⟩ := ih (xs := xs) (ys := p :: ys) (by simp at hn ⊢; omega) ha.tail hb
        have hlt : ∀ z ∈ p :: ys, klt q.1 z.1 = true := fun z hz => by
          rcases List.mem_cons.1 hz with rfl | hz
          · exact hk
          · exact klt_trans hk (hb.head z hz)
        refine ⟨fun z hz => ?_, KS_cons h2 fun z hz => ?_, fun k => ?_⟩
        · rcases List.mem_cons.1 hz with rfl | hz
          · exact .inl ⟨z, by simp, rfl⟩
          · rcases h1 z hz with ⟨u, hu, e⟩ | h
            · exact .inl ⟨u, by simp [hu], e⟩
            · exact .inr h
        · rcases h1 z hz with ⟨u, hu, e⟩ | ⟨u, hu, e⟩
          · rw [← e]; exact ha.head u hu
          · rw [← e]; exact hlt u hu
        · rw [look, h3, look.eq_def (q :: xs)]
          simp only
          by_cases he : q.1 = k
          · rw [if_pos he, if_pos he, look_not (m := p :: ys) fun z hz e => klt_ne (hlt z hz) (he.trans e.symm)]
            rfl
          · rw [if_neg he, if_neg he]
      · rw [if_neg hk]
        by_cases he : q.1 = p.1
        · rw [if_pos he]
          obtain ⟨h1, h2, h3⟩ := ih (xs := xs) (ys := ys) (by simp at hn ⊢; omega) ha.tail hb.tail
          have hlt : ∀ z ∈ mrg xs ys, klt p.1 z.1 = true := fun z hz => by
            rcases h1 z hz with ⟨u, hu, e⟩ | ⟨u, hu, e⟩
            · rw [← e, ← he]; exact ha.head u hu
            · rw [← e]; exact hb.head u hu
          refine ⟨fun z hz => ?_, mrgP_KS h2 hlt, fun k => ?_⟩
          · rcases List.mem_append.1 hz with hz | hz
            · exact .inr ⟨p, by simp, (mrgP_mem hz).symm⟩
            · rcases h1 z hz with ⟨u, hu, e⟩ | ⟨u, hu, e⟩
              · exact .inl ⟨u, by simp [hu], e⟩
              · exact .inr ⟨u, by simp [hu], e⟩
          · rw [mrgP_look, look.eq_def (q :: xs), look.eq_def (p :: ys)]
            simp only
            by_cases hpk : p.1 = k
            · rw [if_pos hpk, if_pos (he.trans hpk), if_pos hpk, look_not fun z hz e => klt_ne (hlt z hz) (hpk.trans e.symm)]
              rfl
            · rw [if_neg hpk, if_neg fun e => hpk (he.symm.trans e), if_neg hpk, h3]
        · rw [if_neg he]
          have hpq : klt p.1 q.1 = true := by
            rcases klt_total q.1 p.1 with h | h | h
            · exact absurd h hk
            · exact absurd h he
            · exact h
          obtain ⟨h1, h2, h3⟩ := ih (xs := q :: xs) (ys := ys) (by simp at hn ⊢; omega) ha hb.tail
          have hla : ∀ u ∈ q :: xs, klt p.1 u.1 = true := fun u hu => by
            rcases List.mem_cons.1 hu with rfl | hu
            · exact hpq
            · exact klt_trans hpq (ha.head u hu)
          have hlt : ∀ z ∈ mrg (q :: xs) ys, klt p.1 z.1 = true := fun z hz => by
            rcases h1 z hz with ⟨u, hu, e⟩ | ⟨u, hu, e⟩
            · rw [← e]; exact hla u hu
            · rw [← e]; exact hb.head u hu
          refine ⟨fun z hz => ?_, mrgP_KS h2 hlt, fun k => ?_⟩
          · rcases List.mem_append.1 hz with hz | hz
            · exact .inr ⟨p, by simp, (mrgP_mem hz).symm⟩
            · rcases h1 z hz with h | ⟨u, hu, e⟩
              · exact .inl h
              · exact .inr ⟨u, by simp [hu], e⟩
          · rw [mrgP_look, look.eq_def (p :: ys)]
            simp only
            by_cases hpk : p.1 = k
            · rw [if_pos hpk, if_pos hpk, look_not fun z hz e => klt_ne (hlt z hz) (hpk.trans e.symm), look_not (m := q :: xs) fun z hz e => klt_ne (hla z hz) (hpk.trans e.symm)]
              rfl
            · rw [if_neg hpk, if_neg hpk, h3]
theorem mrg_over {n k : Nat} {a b : T} (ha : Neat n a) (hb : Neat k b) (h5 : a.kind = 5) (h6 : b.kind = 5) : mkMap (mrg a.map b.map) = b.over a := by
  obtain ⟨l', e, hks, hlen, hlk⟩ := over_look ha hb h5 h6
  obtain ⟨-, h2, h3⟩ := mrg_all _ (Nat.le_refl _) ha.KS hb.KS
  rw [e, KS_ext h2 hks fun k => by rw [h3, hlk]]
section
variable {xs ys : List (ByteArray × T)} {i k : Nat}
theorem mrg_A (hi : i < xs.length) (h : k = ys.length ∨ ∃ h : k < ys.length, klt xs[i].1 ys[k].1 = true) : mrg (xs.drop i) (ys.drop k) = xs[i] :: mrg (xs.drop (i + 1)) (ys.drop k) := by
  rcases h with rfl | ⟨hk, h⟩
  · rw [List.drop_length, mrg_nil, mrg_nil, List.drop_eq_getElem_cons hi]
  · rw [List.drop_eq_getElem_cons hi, List.drop_eq_getElem_cons hk, mrg, if_pos h]
theorem mrg_B (hi : i < xs.length) (hk : k < ys.length) (h : xs[i].1 = ys[k].1) : mrg (xs.drop i) (ys.drop k) = mrgP ys[k] xs[i].2 ++ mrg (xs.drop (i + 1)) (ys.drop (k + 1)) := by
  rw [List.drop_eq_getElem_cons hi, List.drop_eq_getElem_cons hk, mrg, if_neg (by rw [h, klt_irrefl]; simp), if_pos h]
theorem mrg_C (hk : k < ys.length) (h : i = xs.length ∨ ∃ h : i < xs.length, klt xs[i].1 ys[k].1 = false ∧ xs[i].1 ≠ ys[k].1) : mrg (xs.drop i) (ys.drop k) = mrgP ys[k] T.zero ++ mrg (xs.drop i) (ys.drop (k + 1)) := by
  rcases h with rfl | ⟨hi, h1, h2⟩
  · rw [List.drop_length, List.drop_eq_getElem_cons hk, mrg]
  · rw [List.drop_eq_getElem_cons hi, List.drop_eq_getElem_cons hk, mrg, if_neg (by rw [h1]; simp), if_neg h2]
theorem mrg_len : ∀ (xs ys : List (ByteArray × T)), (mrg xs ys).length ≤ xs.length + ys.length := by
  intro xs ys
  generalize hn : xs.length + ys.length = n
  induction n using Nat.strongRecOn generalizing xs ys with
  | ind n ih =>
    have hP : ∀ p was, (mrgP p was).length ≤ 1 := fun p was => by unfold mrgP; split <;> simp
    match xs, ys with
    | xs, [] => rw [mrg_nil]; simp at hn; omega
    | [], p :: ys =>
      rw [mrg, List.length_append]
      have := ih _ (by simp at hn ⊢; omega) [] ys rfl
      have := hP p T.zero
      simp at *; omega
    | q :: xs, p :: ys =>
      rw [mrg]
      split
      · have := ih _ (by simp at hn ⊢; omega) xs (p :: ys) rfl
        simp at *; omega
      · split
        · rw [List.length_append]
          have := ih _ (by simp at hn ⊢; omega) xs ys rfl
          have := hP p q.2
          simp at *; omega
        · rw [List.length_append]
          have := ih _ (by simp at hn ⊢; omega) (q :: xs) ys rfl
          have := hP p T.zero
          simp at *; omega
end

theorem over_zero (x : T) : x.over T.zero = x.strip := over_strip fun h => by simp [T.zero, T.kind] at h
theorem over_kind (b a : T) (ha : a.kind = 5 → ∃ n, Neat n a) (hb : ∃ n, Neat n b) : (b.over a).kind = b.kind := by
  obtain ⟨k, hb⟩ := hb
  by_cases h : a.kind = 5 ∧ b.kind = 5
  · obtain ⟨n, ha⟩ := ha h.1
    obtain ⟨l', e, _⟩ := over_look ha hb h.1 h.2
    rw [e, h.2]; rfl
  · rw [over_strip h, strip_kind]
theorem over_plain {n k : Nat} {a b : T} (ha : Neat n a) (hb : Neat k b) (h6 : b.kind = 5) (h5 : a.kind = 5) (hm : a.map = []) : b.over a = b.strip := by
  obtain ⟨l', e, hks, -, hlk⟩ := over_look ha hb h5 h6
  rw [e, strip_eq, if_pos h6, KS_ext hks (stripM_KS hb.KS) fun k => ?_]
  rw [hlk, look_stripM hb.KS, hm]
  cases look b.map k with
  | none => rfl
  | some x =>
    simp only [ovl, look, Option.getD_none, over_zero, Option.bind_some]
theorem over_self {n : Nat} {p : T} (hn : Neat n p) (hp : PlainT p) : p.over p = p := by
  induction p using T.ind' with
  | h p ihl ihm =>
    by_cases h5 : p.kind = 5
    · obtain ⟨l', e, hks, -, hlk⟩ := over_look hn hn h5 h5
      rw [e, KS_ext hks hn.KS fun k => ?_, ← hn.map h5]
      rw [hlk]
      cases ex : look p.map k with
      | none => rfl
      | some x =>
        obtain ⟨h0, hx⟩ := plain_sub hn h5 hp ex
        rw [ovl, if_neg h0, Option.getD_some, ihm _ (look_mem ex) (hn.look ex) hx]
    · rw [over_strip fun h => h5 h.1]; exact hp
theorem diff_self {n : Nat} {p : T} (hn : Neat n p) : (p.diff p).map = [] := by
  obtain ⟨l', e, hks, -, hlk⟩ := diff_look hn hn
  rw [e]
  refine KS_ext (m := []) hks KS.nil fun k => ?_
  rw [show (mkMap l').map = l' from rfl, hlk]
  cases look p.map k with
  | none => rfl
  | some x => rw [dif, if_pos (cmp_1 x).refl]; rfl
theorem diff_kind {n k : Nat} {a b : T} (ha : Neat n a) (hb : Neat k b) : (b.diff a).kind = 5 := by
  obtain ⟨l', e, _⟩ := diff_look ha hb
  rw [e]; rfl
theorem over_diff {n k : Nat} {q : T} (hq : Neat k q) (hqp : PlainT q) (h6 : q.kind = 5) : ∀ {p : T}, Neat n p → PlainT p → p.kind = 5 → (q.diff p).over p = q := by
  induction q using T.ind' with
  | h q ihl ihm =>
    intro p hp hpp h5
    obtain ⟨d, ed, hdk, -, hdl⟩ := diff_look hp hq
    obtain ⟨l', e, hks, -, hlk⟩ := over_look hp (diff_neat hq hp) h5 (diff_kind hp hq)
    rw [e, KS_ext hks hq.KS fun k => ?_, ← hq.map h6]
    rw [hlk, ed, show (mkMap d).map = d from rfl, hdl]
    cases ew : look p.map k with
    | none =>
      cases ex : look q.map k with
      | none => rfl
      | some x =>
        obtain ⟨h0, hx⟩ := plain_sub hq h6 hqp ex
        rw [dif, ovl, if_neg h0, Option.getD_none, over_zero, hx]
    | some was =>
      obtain ⟨hw0, hwp⟩ := plain_sub hp h5 hpp ew
      cases ex : look q.map k with
      | none => rw [dif, ovl, if_pos (show T.zero.kind = 0 from rfl)]
      | some x =>
        obtain ⟨h0, hx⟩ := plain_sub hq h6 hqp ex
        rw [dif]
        by_cases hc : T.cmp was x = 0
        · rw [if_pos hc, ovl, cmp_is (hp.look ew).parts (hq.look ex).parts hc]
        · rw [if_neg hc]
          by_cases hb : was.kind = 5 ∧ x.kind = 5
          · rw [if_pos hb, ovl, if_neg (by rw [diff_kind (hp.look ew) (hq.look ex)]; omega), Option.getD_some, ihm _ (look_mem ex) (hq.look ex) hx hb.2 (hp.look ew) hwp hb.1]
          · rw [if_neg hb, ovl, if_neg h0, Option.getD_some, over_strip hb, hx]
end Go.Proofs.Ytmdihildjblgnaa
