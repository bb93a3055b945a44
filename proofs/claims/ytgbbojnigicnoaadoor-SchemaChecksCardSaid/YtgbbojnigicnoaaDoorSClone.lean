/- slices.Clone, of values and of pairs: a new row with the same cells. -/
import Derived.Test.YtgbbojnigicnoaaDoorRows
import Derived.Test.YtgbbojnigicnoaaDoorMem
import Derived.Maps.AppendAt
import Derived.OwnWalk
namespace Go.Proofs.YtgbbojnigicnoaaDoor
open Go.RowKit

/-- The cells of a slice, wherever it begins. -/
def Src (w : World) (a : Option Addr) (xs : List Value) : Prop := ∀ j u, xs[j]? = some u → ∃ b o, a = some ⟨b, o, none⟩ ∧ w.cell? ⟨b, o + j, none⟩ = some u
theorem Src.add {w : World} {ad : Addr} {xs : List Value} (h : Src w (some ad) xs) : ∀ j u, xs[j]? = some u → w.cell? (ad.add j) = some u := by
  intro j u hu
  obtain ⟨b, o, e, hc⟩ := h j u hu
  injection e with e
  subst e
  rw [show (⟨b, o, none⟩ : Addr).add j = ⟨b, o + j, none⟩ by unfold Addr.add; split <;> simp_all]
  exact hc
theorem Src.keep {w w' : World} {a : Option Addr} {xs : List Value} (h : Src w a xs) (hb : Below w.heap.size w w') : Src w' a xs := by
  intro j u hu
  obtain ⟨b, o, e, hc⟩ := h j u hu
  exact ⟨b, o, e, (hb.cell (p := ⟨b, o + j, none⟩) (block_lt_of_cell (a := ⟨b, o + j, none⟩) hc)).trans hc⟩

/-- A copy: nil of nil; else a row of the call's own. -/
def Copied (B : Nat) (ty size n : Nat) (xs : List Value) (w w' : World) (v : Value) : Prop :=
  ∃ (A : Option Addr) (cap : Nat), v = .slice A n cap ∧ n ≤ cap ∧ cap ≤ maxLen ∧ (A = none → n = 0 ∧ cap = 0) ∧ (∀ ad, A = some ad → ∃ g cur, ad = ⟨g, 0, none⟩ ∧ B ≤ g ∧ Blk w' g ty cur ∧ cur.size = cap * size ∧ cur.toList.take (n * size) = xs) ∧ Below w.heap.size w w'
def CopyPost (ty size n : Nat) (xs : List Value) (w : World) (e : Ending) (w' : World) : Prop := ∃ v, e = .returned v ∧ Copied w.heap.size ty size n xs w w' v

theorem sclone_v_info : (Tryd.prog.info? 25).map (fun i => (i.zero, i.size, i.bytes)) = some (some (.agg #[.int .i64 0, .bool false, .int .i64 0, .string ⟨#[]⟩, .slice none 0 0, .slice none 0 0]), 6, 88) := by kernel_rfl
set_option maxHeartbeats 400000 in
theorem sclone_v (a : Option Addr) (n c : Nat) (xs : List Value) (w : World) (hs : Src w a xs) (hl : xs.length = n * 6) (h1 : ∀ u ∈ xs, u.oneCell' = true) (hz : n * 88 ≤ 140737488355328) :
    Calls Tryd.prog 46 #[.slice a n c] w (CopyPost 25 6 n xs w) := by
  have hnil := fun (w : World) (a : Option Addr) (n c n' c' : Nat) => Lib.run_eql_slice_nil (P := Tryd.prog) w 22 25 a n c n' c' Tryd.underlying22
  cases a with
  | none =>
    have hn : n = 0 := by
      rcases Nat.eq_zero_or_pos n with h | h
      · exact h
      · obtain ⟨_, _, e, _⟩ := hs 0 (xs[0]'(by omega)) (List.getElem?_eq_getElem (by omega))
        cases e
    subst hn
    have hx : xs = [] := List.eq_nil_of_length_eq_zero (by omega)
    subst hx
    clear hs hl h1 hz
    go_enter Tryd.func46, Tryd.ntmps46
    go_wp2_with fail
    go_ret
    exact ⟨_, rfl, none, 0, rfl, Nat.le_refl _, by unfold maxLen; omega, fun _ => ⟨rfl, rfl⟩, fun _ h => (by cases h), Below.refl _ _⟩
  | some ad =>
    obtain ⟨i0, hi, hz0, hz1, hz2⟩ := info_parts sclone_v_info
    have hsa := hs.add
    have HL := Lib.hid hl
    clear hs hl
    go_enter Tryd.func46, Tryd.ntmps46
    have hsa2 : ∀ j u, xs[j]? = some u → (w.alloc (.cells #[] 25)).cell? (ad.add j) = some u := fun j u hu => by
      have hc := hsa j u hu
      rw [World.cell?_alloc_lt w _ _ (block_lt_of_cell hc)]
      exact hc
    have hown0 := World.ownsRow_lit (base := w.heap.size) (e := 25) (size := 6) w #[] 0 (Nat.le_refl _) (by unfold maxLen; omega) (by rfl)
    have hmax : 0 + n ≤ maxLen := by unfold maxLen; omega
    go_wp2_with (at_builtin; refine wpList_append_own_at _ rfl (.tmp 5) (.tmp 6) 22 rfl w.heap.size 25 i0 _ 6 88 Tryd.underlying22 hi hz0 hz1 hz2 rfl (by omega) (.slice (some ⟨w.heap.size, 0, none⟩) 0 0) 0 [] rfl hown0 ad n c xs rfl HL.out hsa2 h1 hmax (by omega) (by simp) ?_; intro v' w1 hown hgr hnl hat)
    have hbw : Below w.heap.size w w1 := (Below.new w _).grown hgr (by simp) (by simp [Value.ownBlock])
    go_ret
    obtain ⟨hlen, hcase⟩ := hown
    rcases hcase with ⟨rfl, hn0⟩ | ⟨g, cap, cur, rfl, hg, hh, hnc, hcm, hcs, htk⟩
    · have := (hnl.1 rfl).1
      cases this
    · refine ⟨_, rfl, some ⟨g, 0, none⟩, cap, by rw [Nat.zero_add]; rfl, by omega, hcm, fun h => (by cases h), fun ad' h => ?_, hbw⟩
      injection h with h
      subst h
      exact ⟨g, cur, rfl, hg, hh, hcs, by rw [Nat.zero_add] at htk; simpa using htk⟩

theorem sclone_p_info : (Tryd.prog.info? 41).map (fun i => (i.zero, i.size, i.bytes)) = some (some (.agg #[.string ⟨#[]⟩, .int .i64 0, .bool false, .int .i64 0, .string ⟨#[]⟩, .slice none 0 0, .slice none 0 0]), 7, 104) := by kernel_rfl
set_option maxHeartbeats 400000 in
theorem sclone_p (a : Option Addr) (n c : Nat) (xs : List Value) (w : World) (hs : Src w a xs) (hl : xs.length = n * 7) (h1 : ∀ u ∈ xs, u.oneCell' = true) (hz : n * 104 ≤ 140737488355328) :
    Calls Tryd.prog 47 #[.slice a n c] w (CopyPost 41 7 n xs w) := by
  have hnil := fun (w : World) (a : Option Addr) (n c n' c' : Nat) => Lib.run_eql_slice_nil (P := Tryd.prog) w 23 41 a n c n' c' Tryd.underlying23
  cases a with
  | none =>
    have hn : n = 0 := by
      rcases Nat.eq_zero_or_pos n with h | h
      · exact h
      · obtain ⟨_, _, e, _⟩ := hs 0 (xs[0]'(by omega)) (List.getElem?_eq_getElem (by omega))
        cases e
    subst hn
    have hx : xs = [] := List.eq_nil_of_length_eq_zero (by omega)
    subst hx
    clear hs hl h1 hz
    go_enter Tryd.func47, Tryd.ntmps47
    go_wp2_with fail
    go_ret
    exact ⟨_, rfl, none, 0, rfl, Nat.le_refl _, by unfold maxLen; omega, fun _ => ⟨rfl, rfl⟩, fun _ h => (by cases h), Below.refl _ _⟩
  | some ad =>
    obtain ⟨i0, hi, hz0, hz1, hz2⟩ := info_parts sclone_p_info
    have hsa := hs.add
    have HL := Lib.hid hl
    clear hs hl
    go_enter Tryd.func47, Tryd.ntmps47
    have hsa2 : ∀ j u, xs[j]? = some u → (w.alloc (.cells #[] 41)).cell? (ad.add j) = some u := fun j u hu => by
      have hc := hsa j u hu
      rw [World.cell?_alloc_lt w _ _ (block_lt_of_cell hc)]
      exact hc
    have hown0 := World.ownsRow_lit (base := w.heap.size) (e := 41) (size := 7) w #[] 0 (Nat.le_refl _) (by unfold maxLen; omega) (by rfl)
    have hmax : 0 + n ≤ maxLen := by unfold maxLen; omega
    go_wp2_with (at_builtin; refine wpList_append_own_at _ rfl (.tmp 5) (.tmp 6) 23 rfl w.heap.size 41 i0 _ 7 104 Tryd.underlying23 hi hz0 hz1 hz2 rfl (by omega) (.slice (some ⟨w.heap.size, 0, none⟩) 0 0) 0 [] rfl hown0 ad n c xs rfl HL.out hsa2 h1 hmax (by omega) (by simp) ?_; intro v' w1 hown hgr hnl hat)
    have hbw : Below w.heap.size w w1 := (Below.new w _).grown hgr (by simp) (by simp [Value.ownBlock])
    go_ret
    obtain ⟨hlen, hcase⟩ := hown
    rcases hcase with ⟨rfl, hn0⟩ | ⟨g, cap, cur, rfl, hg, hh, hnc, hcm, hcs, htk⟩
    · have := (hnl.1 rfl).1
      cases this
    · refine ⟨_, rfl, some ⟨g, 0, none⟩, cap, by rw [Nat.zero_add]; rfl, by omega, hcm, fun h => (by cases h), fun ad' h => ?_, hbw⟩
      injection h with h
      subst h
      exact ⟨g, cur, rfl, hg, hh, hcs, by rw [Nat.zero_add] at htk; simpa using htk⟩
end Go.Proofs.YtgbbojnigicnoaaDoor
