/- slices.Insert of one pair into a row of the call's own, whichever road it takes. -/
import Derived.Test.YthkkmnmejciomaaInsert
namespace Go.Proofs.Ythkkmnmejciomaa
open Go.RowKit Go.Lib

theorem lay_shift {L xs es : List Value} {p q : Nat} (hq : es.length = q) (hp : p ≤ xs.length) (hL : p + q ≤ L.length) (ht : L.take p = xs.take p) :
    (((L.take (p + q) ++ xs.drop p ++ L.drop (p + q + (xs.drop p).length)).take p ++ es ++ (L.take (p + q) ++ xs.drop p ++ L.drop (p + q + (xs.drop p).length)).drop (p + es.length))).take (xs.length + q) = xs.take p ++ es ++ xs.drop p := by
  have h1 : (L.take (p + q)).length = p + q := by rw [List.length_take]; omega
  have h2 : (L.take (p + q) ++ xs.drop p ++ L.drop (p + q + (xs.drop p).length)).take p = xs.take p := by
    rw [List.append_assoc, List.take_append_of_le_length (by omega), List.take_take, show min p (p + q) = p by omega, ht]
  have h3 : (L.take (p + q) ++ xs.drop p ++ L.drop (p + q + (xs.drop p).length)).drop (p + es.length) = xs.drop p ++ L.drop (p + q + (xs.drop p).length) := by
    rw [List.append_assoc, hq, List.drop_append_of_le_length (by omega), List.drop_of_length_le (by omega), List.nil_append]
  rw [h2, h3, ← List.append_assoc, List.take_append_of_le_length (by simp; omega), List.take_of_length_le (by simp; omega)]

theorem lay_grow {L xs es : List Value} {p q : Nat} (hq : es.length = q) (hp : p ≤ xs.length) (hL : xs.length + q ≤ L.length) (ht : L.take p = xs.take p) :
    (((L.take p ++ es ++ L.drop (p + es.length)).take (p + q) ++ xs.drop p ++ (L.take p ++ es ++ L.drop (p + es.length)).drop (p + q + (xs.drop p).length))).take (xs.length + q) = xs.take p ++ es ++ xs.drop p := by
  have h1 : (L.take p ++ es).length = p + q := by rw [List.length_append, List.length_take]; omega
  have h2 : (L.take p ++ es ++ L.drop (p + es.length)).take (p + q) = xs.take p ++ es := by
    rw [List.take_append_of_le_length (by omega), List.take_of_length_le (by omega), ht]
  rw [h2, List.take_append_of_le_length (by simp; omega), List.take_of_length_le (by simp; omega)]

theorem Blk.shape {w : World} {g : Nat} {t : TypeId} {cs : Array Value} (h : Blk w g t cs) : w.shape? g = some (t, cs.size) := by
  unfold Blk at h
  simp [World.shape?, h]

theorem grown_refl (w : World) (row : Option Nat) : w.grownBy w row := World.grownBy.refl w row
theorem grown_drew {a w : World} {row : Option Nat} (h : a.grownBy w row) : a.grownBy w.drew row := ⟨h.os, h.tape, h.output, h.size, h.block⟩
theorem grown_alloc (w : World) (row : Option Nat) (o : Obj) : w.grownBy (w.alloc o) row :=
  ⟨rfl, rfl, rfl, by simp, fun k hk _ => Below.heap_alloc w o k hk⟩

theorem insert_any (B : Nat) (v : Value) (n i vb ty : Nat) (xs es : List Value) (w : World) (hB : B ≤ w.heap.size) (hi : i ≤ n) (hown : w.ownsRow B 38 7 v n xs) (hbig : (n + 1) * 104 ≤ 140737488355328)
    (hl : es.length = 7) (hes : Blk w vb ty es.toArray) (hne : v.ownBlock ≠ some vb) (h1x : ∀ u ∈ xs, u.oneCell' = true) (h1 : ∀ u ∈ es, u.oneCell' = true) :
    Calls Try.prog 35 #[v, .int .i64 i, .slice (some ⟨vb, 0, none⟩) 1 1] w (InsPost B n 1 (xs.take (i * 7) ++ es ++ xs.drop (i * 7)) v w) := by
  have hec : ∀ j u, es[j]? = some u → w.cell? ⟨vb, 0 + j, none⟩ = some u := fun j u hu => by
    rw [Nat.zero_add, hes.cell]
    simpa using hu
  rcases Nat.lt_or_ge i n with hlt | hge
  · obtain ⟨hlen, hcase⟩ := hown
    rcases hcase with ⟨rfl, hn0⟩ | ⟨g, cap, cur, rfl, hg, hh, hnc, hcm, hcs, htk⟩
    · omega
    have hb : Blk w g 38 cur := hh
    have hvg : vb ≠ g := fun e => hne (by rw [e]; rfl)
    have hc63 : cap ≤ 9223372036854775807 := by unfold maxLen at hcm; omega
    have hxc : ∀ j u, xs[j]? = some u → w.cell? ⟨g, j, none⟩ = some u := fun j u hu => by
      rw [hb.cell]
      have hj := (List.getElem?_eq_some_iff.1 hu).1
      rw [← htk, List.getElem?_take_of_lt (by omega)] at hu
      simpa using hu
    have hp : i * 7 ≤ xs.length := by omega
    have ht0 : cur.toList.take (i * 7) = xs.take (i * 7) := by
      rw [← htk, List.take_take, show min (i * 7) (n * 7) = i * 7 by omega]
    rcases Nat.lt_or_ge cap (n + 1) with hfull | hroom
    · refine (ins_grow g n cap i vb 0 1 1 xs es w hlt (by omega) hnc hfull hbig hlen (by omega) hxc hec h1x h1).mono ?_
      rintro e w' ⟨G, ROW, hG, hGm, hRs, hRt, rfl, rfl⟩
      have hb0 : Blk ((w.alloc (.cells ROW 38)).drew) w.heap.size 38 ROW := (Blk.new w 38 ROW).drew
      have hb1 := (hb0.setCells es (i * 7) (by omega)).drew
      have hz1 : (ROW.toList.take (i * 7) ++ es ++ ROW.toList.drop (i * 7 + es.length)).toArray.size = ROW.size := by simp; omega
      have hb2 := hb1.setCells (xs.drop (i * 7)) ((i + 1) * 7) (by rw [hz1, List.length_drop]; omega)
      refine ⟨_, rfl, ⟨?_, Or.inr ⟨w.heap.size, G, _, rfl, hB, hb2, hG, hGm, ?_, ?_⟩⟩, ?_, Or.inr rfl⟩
      · simp; omega
      · simp; omega
      · have := lay_grow (L := ROW.toList) (xs := xs) (es := es) (p := i * 7) (q := 7) hl hp (by simp; omega) hRt
        rw [show xs.length + 7 = (n + 1) * 7 by omega, show i * 7 + 7 = (i + 1) * 7 by omega] at this
        simpa only [List.toList_toArray] using this
      · exact grown_setCells (grown_drew (grown_setCells (grown_drew (grown_alloc w _ _)) (Or.inr (Nat.le_refl _)) _ _)) (Or.inr (Nat.le_refl _)) _ _
    · refine (ins_shift g n cap i vb 0 1 1 xs es w hlt (by omega) hroom hc63 hvg hlen (by omega) hxc (fun j hj => ?_) (fun j => hb.frozen j) hec h1x h1 _ _ _ _ hes.shape hb.shape (by omega) (fun j => hes.frozen j)).mono ?_
      · rw [hb.cell, Array.getElem?_eq_getElem (by omega)]
        rfl
      rintro e w' ⟨rfl, rfl⟩
      have hb1 := hb.drew.setCells (xs.drop (i * 7)) ((i + 1) * 7) (by rw [List.length_drop]; omega)
      have hz1 : (cur.toList.take ((i + 1) * 7) ++ xs.drop (i * 7) ++ cur.toList.drop ((i + 1) * 7 + (xs.drop (i * 7)).length)).toArray.size = cur.size := by simp; omega
      have hb2 := hb1.setCells es (i * 7) (by omega)
      refine ⟨_, rfl, ⟨?_, Or.inr ⟨g, cap, _, rfl, hg, hb2, hroom, hcm, ?_, ?_⟩⟩, ?_, Or.inl rfl⟩
      · simp; omega
      · simp; omega
      · have := lay_shift (L := cur.toList) (xs := xs) (es := es) (p := i * 7) (q := 7) hl hp (by simp; omega) ht0
        rw [show xs.length + 7 = (n + 1) * 7 by omega, show i * 7 + 7 = (i + 1) * 7 by omega] at this
        simpa only [List.toList_toArray] using this
      · exact grown_setCells (grown_setCells (grown_drew (grown_refl w _)) (Or.inl rfl) _ _) (Or.inl rfl) _ _
  · obtain rfl : i = n := by omega
    rw [List.take_of_length_le (by rw [hown.1]; omega), List.drop_of_length_le (by rw [hown.1]; omega), List.append_nil]
    exact ins_end B v i vb 0 1 1 xs es w hB (by omega) hown hbig (by omega) (fun j u hu => by rw [add_lit]; exact hec j u hu) h1

end Go.Proofs.Ythkkmnmejciomaa
