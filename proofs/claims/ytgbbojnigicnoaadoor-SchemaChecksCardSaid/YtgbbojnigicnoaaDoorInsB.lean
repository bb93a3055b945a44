/- Several texts as one. -/
import Derived.Test.YtgbbojnigicnoaaDoorRows
import Derived.Test.YtgbbojnigicnoaaDoorMem
import Derived.Test.YtgbbojnigicnoaaDoorSClone
import Derived.Maps.AppendAt
import Derived.OwnWalk
import Derived.Shelf.Spec.SlicesInsertGrow
/- slices.Insert at pairs, into a row of the call's own: after the library's worked text at strings (SlicesInsert, SlicesInsertGrow), turned to elements of more than one cell. -/
namespace Go.Proofs.YtgbbojnigicnoaaDoor
open Go.RowKit Go.Lib

section
variable {P : Program}
/-- copy at elements of sz cells. -/
theorem run_copy_wide (w : World) (dT sT ty elem : TypeId) (sz b o dLen dCap : Nat) (a : Addr) (sLen sCap k : Nat) (cs : List Value)
    (hu : P.underlying dT = some (.slice elem)) (hs : (P.info? elem).map (·.size) = some sz) (hk : Nat.min sLen dLen = k) (hn : cs.length = k * sz)
    (hsrc : ∀ j v, cs[j]? = some v → w.cell? (a.add j) = some v) (hc : ∀ j, j < cs.length → (w.cell? ⟨b, o + j, none⟩).isSome = true) (hf : ∀ j, j < cs.length → w.frozen? ⟨b, o + j, none⟩ = false) (h1 : ∀ v ∈ cs, v.oneCell' = true) :
    (Builtin.copy_ #[dT, sT] ty #[.slice (some ⟨b, o, none⟩) dLen dCap, .slice (some a) sLen sCap]).run P w = .ok (goInt k) (w.setCells b o cs) := by
  have hl := run_loadCells_list (P := P) w a cs hsrc
  have hst := run_storeCells_cells (P := P) b o cs 0 w (by simpa using hc) (by simpa using hf) h1
  cases hq : P.info? elem with
  | none => simp [hq] at hs
  | some i =>
    have hi : i.size = sz := by simpa [hq] using hs
    simp [Builtin.copy_, run_underlying hu, Builtin.lenOf, Builtin.firstCells, sizeOf, typeInfo, hq, hi, hk, ← hn, hl, hst]
end

/-- Cells laid into a block that is known whole. -/
theorem Blk.setCells {g ty : Nat} : ∀ (vs : List Value) (o : Nat) {w : World} {cur : Array Value}, Blk w g ty cur → o + vs.length ≤ cur.size →
    Blk (w.setCells g o vs) g ty (cur.toList.take o ++ vs ++ cur.toList.drop (o + vs.length)).toArray
  | [], o, w, cur, h, _ => by simpa [World.setCells] using h
  | v :: r, o, w, cur, h, hl => by
    have h1 := Blk.setCells r (o + 1) (h.set_ o v) (by simp at hl ⊢; omega)
    have e := list_seg_step cur.toList o v r (by simp at hl ⊢; omega)
    rw [World.setCells]
    have e2 : ((cur.setIfInBounds o v).toList.take (o + 1) ++ r ++ (cur.setIfInBounds o v).toList.drop (o + 1 + r.length)) = cur.toList.take o ++ (v :: r) ++ cur.toList.drop (o + (v :: r).length) := by
      simpa [Array.toList_setIfInBounds, Nat.add_assoc] using e
    rw [← e2]
    exact h1
theorem heap_setCells (g : Nat) : ∀ (vs : List Value) (o : Nat) (w : World) (k : Nat), k ≠ g → (w.setCells g o vs).heap[k]? = w.heap[k]?
  | [], _, _, _, _ => rfl
  | v :: r, o, w, k, h => by rw [World.setCells, heap_setCells g r (o + 1) _ k h, Below.heap_setCell w _ v k h]
theorem size_setCells (g : Nat) : ∀ (vs : List Value) (o : Nat) (w : World), (w.setCells g o vs).heap.size = w.heap.size
  | [], _, _ => rfl
  | v :: r, o, w => by rw [World.setCells, size_setCells g r (o + 1) _]; simp [World.setCell]
theorem same_setCells (g : Nat) : ∀ (vs : List Value) (o : Nat) (w : World), (w.setCells g o vs).os = w.os ∧ (w.setCells g o vs).tape = w.tape ∧ (w.setCells g o vs).output = w.output
  | [], _, _ => ⟨rfl, rfl, rfl⟩
  | v :: r, o, w => by
    obtain ⟨h1, h2, h3⟩ := same_setCells g r (o + 1) (w.setCell ⟨g, o, none⟩ v)
    rw [World.setCells]
    exact ⟨h1, h2, h3⟩
theorem grown_setCells {a w : World} {row : Option Nat} {g : Nat} (h : a.grownBy w row) (hg : some g = row ∨ a.heap.size ≤ g) (o : Nat) (vs : List Value) : a.grownBy (w.setCells g o vs) row := by
  obtain ⟨h1, h2, h3⟩ := same_setCells g vs o w
  refine ⟨h1.trans h.os, h2.trans h.tape, h3.trans h.output, by rw [size_setCells]; exact h.size, fun k hk hne => ?_⟩
  rw [heap_setCells g vs o w k ?_]
  · exact h.block k hk hne
  · rintro rfl
    rcases hg with e | e
    · exact hne e
    · omega
theorem cell_setCells_far (b : Nat) (vs : List Value) (o : Nat) (w : World) {c j : Nat} (h : c ≠ b) : (w.setCells b o vs).cell? ⟨c, j, none⟩ = w.cell? ⟨c, j, none⟩ :=
  World.cell?_of_block (a := ⟨c, j, none⟩) (heap_setCells b vs o w c h)
theorem add_lit (b o j : Nat) : (⟨b, o, none⟩ : Addr).add j = ⟨b, o + j, none⟩ := by unfold Addr.add; split <;> simp_all

/-- What Insert leaves: a row of the call's own with the cells laid in. -/
def InsPost (B n m : Nat) (xs' : List Value) (v : Value) (w : World) (e : Ending) (w' : World) : Prop :=
  ∃ v', e = .returned v' ∧ w'.ownsRow B 41 7 v' (n + m) xs' ∧ w.grownBy w' v.ownBlock ∧ (v'.ownBlock = v.ownBlock ∨ v'.ownBlock = some w.heap.size)

set_option maxHeartbeats 1000000 in
set_option maxRecDepth 100000 in
/-- At the end. -/
theorem ins_end (B : Nat) (v : Value) (n vb voff m vc : Nat) (xs es : List Value) (w : World) (hB : B ≤ w.heap.size) (hm : 0 < m) (hown : w.ownsRow B 41 7 v n xs) (hbig : (n + m) * 104 ≤ 140737488355328)
    (hl : es.length = m * 7) (hes : ∀ j u, es[j]? = some u → w.cell? ((⟨vb, voff, none⟩ : Addr).add j) = some u) (h1 : ∀ u ∈ es, u.oneCell' = true) :
    Calls Tryd.prog 32 #[v, .int .i64 n, .slice (some ⟨vb, voff, none⟩) m vc] w (InsPost B n m (xs ++ es) v w) := by
  obtain ⟨i0, hi, hz0, hz1, hz2⟩ := info_parts sclone_p_info
  have hmax : n + m ≤ maxLen := by unfold maxLen; omega
  have hnm : ¬ ((m : Int) = 0) := by omega
  have hcase := hown.2
  have HO := Lib.hid hown
  have HL := Lib.hid hl
  clear hown hl
  rcases hcase with ⟨rfl, hn0⟩ | ⟨g, cap, cur, rfl, hg, hh, hnc, hcm, hcs, htk⟩
  · subst hn0
    go_enter Tryd.func32, Tryd.ntmps32
    go_wp2_with (at_builtin; refine wpList_append_own_at _ rfl (.tmp 23) (.tmp 24) 23 rfl B 41 i0 _ 7 104 Tryd.underlying23 hi hz0 hz1 hz2 rfl (by omega) _ 0 xs rfl HO.out ⟨vb, voff, none⟩ m vc es rfl HL.out hes h1 hmax hbig hB ?_; intro v' w1 hown hgr hnl hat)
    all_goals (go_ret; exact ⟨_, rfl, hown, hgr, hat⟩)
  · have hcap : cap ≤ 9223372036854775807 := by unfold maxLen at hcm; omega
    clear hcs htk hh hg
    go_enter Tryd.func32, Tryd.ntmps32
    go_wp2_with (at_builtin; refine wpList_append_own_at _ rfl (.tmp 23) (.tmp 24) 23 rfl B 41 i0 _ 7 104 Tryd.underlying23 hi hz0 hz1 hz2 rfl (by omega) _ n xs rfl HO.out ⟨vb, voff, none⟩ m vc es rfl HL.out hes h1 hmax hbig hB ?_; intro v' w1 hown hgr hnl hat)
    all_goals (go_ret; exact ⟨_, rfl, hown, hgr, hat⟩)

theorem pair_size : (Tryd.prog.info? 41).map (·.size) = some 7 := by kernel_rfl
theorem pair_sizeOf (w : World) : (Go.sizeOf 41).run Tryd.prog w = .ok 7 w := by
  obtain ⟨i0, hi, hz0, hz1, hz2⟩ := info_parts sclone_p_info
  simp [sizeOf, typeInfo, hi, hz1]
theorem und_pairs : Tryd.prog.underlying 23 = some (.slice 41) := by kernel_rfl
theorem und_int : Tryd.prog.underlying 3 = some (.int .i64) := by kernel_rfl

set_option maxHeartbeats 4000000 in
set_option maxRecDepth 100000 in
/-- In the middle, with room. -/
theorem ins_shift (b n c i vb voff m vc : Nat) (cs vs : List Value) (w : World) (hi : i < n) (hm : 0 < m) (hroom : n + m ≤ c) (hc63 : c ≤ 9223372036854775807) (hvb : vb ≠ b)
    (hcl : cs.length = n * 7) (hvl : vs.length = m * 7)
    (hcs : ∀ j v, cs[j]? = some v → w.cell? ⟨b, j, none⟩ = some v) (hsp : ∀ j, j < (n + m) * 7 → (w.cell? ⟨b, j, none⟩).isSome = true) (hfz : ∀ j, w.frozen? ⟨b, j, none⟩ = false)
    (hvs : ∀ j v, vs[j]? = some v → w.cell? ⟨vb, voff + j, none⟩ = some v) (h1c : ∀ v ∈ cs, v.oneCell' = true) (h1v : ∀ v ∈ vs, v.oneCell' = true)
    (tA tB : TypeId) (kA kB : Nat) (hsa : w.shape? vb = some (tA, kA)) (hsb : w.shape? b = some (tB, kB)) (hkB : kB ≠ 0) (hfa : ∀ j, w.frozen? ⟨vb, j, none⟩ = false) :
    Calls Tryd.prog 32 #[.slice (some ⟨b, 0, none⟩) n c, .int .i64 i, .slice (some ⟨vb, voff, none⟩) m vc] w fun e w' =>
      e = .returned (.slice (some ⟨b, 0, none⟩) (n + m) c) ∧ w' = (w.drew.setCells b ((i + m) * 7) (cs.drop (i * 7))).setCells b (i * 7) vs := by
  have hz1 : ¬ ((m : Int) = 0) := by omega
  have hz2 : ¬ ((i : Int) = (n : Int)) := by omega
  have hov : ∀ lb cb, (callFunc 48 #[.slice (some ⟨vb, voff, none⟩) m vc, .slice (some ⟨b, (i + m) * 7, none⟩) lb cb]).run Tryd.prog w = .ok (.value (.bool false)) w := fun lb cb => by
    rw [run_callFunc_extern Tryd.func48 (by kernel_rfl) (by kernel_rfl) (by kernel_rfl) (e := Extern.SlicesOverlaps.overlaps #[23, 23] #[4]) (by kernel_rfl),
      Lib.run_overlaps_apart w 23 4 41 und_pairs 7 pair_sizeOf ⟨vb, voff, none⟩ ⟨b, (i + m) * 7, none⟩ m vc lb cb hvb tA tB kA kB hsa hsb hkB (hfa _) (hfa _)]
    rfl
  have hdl : (cs.drop (i * 7)).length = (n - i) * 7 := by rw [List.length_drop, hcl, Nat.sub_mul]
  have hw1 : IntKind.i64.wrap ((i : Int) + (m : Int)) = (i : Int) + (m : Int) := by rw [IntKind.wrap_i64]; omega
  have hb1 : (0 : Int) ≤ (i : Int) + (m : Int) := by omega
  have hin : i ≤ n := by omega
  have htn : ((i : Int) + (m : Int)).toNat = i + m := by omega
  have hb2 : ¬ (c = i + m) := by omega
  have hb3 : (i : Int) ≤ (n : Int) + (m : Int) := by omega
  have hb4 : ¬ (c = i) := by omega
  have hcp1 : ∀ ty dc sc, (Builtin.copy_ #[23, 23] ty #[.slice (some ⟨b, (i + m) * 7, none⟩) (n + m - (i + m)) dc, .slice (some ⟨b, i * 7, none⟩) (n + m - i) sc]).run Tryd.prog w.drew = .ok (goInt (n - i : Nat)) (w.drew.setCells b ((i + m) * 7) (cs.drop (i * 7))) := fun ty dc sc =>
    run_copy_wide w.drew _ _ ty 41 7 b ((i + m) * 7) (n + m - (i + m)) dc ⟨b, i * 7, none⟩ (n + m - i) sc (n - i) (cs.drop (i * 7)) und_pairs pair_size (by simp only [Nat.min_def]; split <;> omega) hdl
      (fun j v hj => by rw [add_lit]; exact hcs (i * 7 + j) v (by rwa [List.getElem?_drop] at hj))
      (fun j hj => hsp _ (by rw [hdl] at hj; omega)) (fun j hj => hfz _) (fun v hv => h1c v (List.mem_of_mem_drop hv))
  obtain ⟨W1, hW1⟩ : ∃ W1, W1 = w.drew.setCells b ((i + m) * 7) (cs.drop (i * 7)) := ⟨_, rfl⟩
  have hsp1 : ∀ k, k < (n + m) * 7 → (W1.cell? ⟨b, k, none⟩).isSome = true := fun k hk => by
    rw [hW1]
    exact isSome_setCells b _ ((i + m) * 7) w.drew (fun j hj => hsp ((i + m) * 7 + j) (by rw [hdl] at hj; omega)) _ (hsp k hk)
  have hcp2 : ∀ (W : World), (∀ x, W.cell? x = W1.cell? x) → (∀ x, W.frozen? x = W1.frozen? x) → ∀ ty dc, (Builtin.copy_ #[23, 23] ty #[.slice (some ⟨b, i * 7, none⟩) (n + m - i) dc, .slice (some ⟨vb, voff, none⟩) m vc]).run Tryd.prog W = .ok (goInt m) (W.setCells b (i * 7) vs) := fun W hWc hWf ty dc =>
    run_copy_wide W _ _ ty 41 7 b (i * 7) (n + m - i) dc ⟨vb, voff, none⟩ m vc m vs und_pairs pair_size (by simp only [Nat.min_def]; split <;> omega) hvl
      (fun j v hj => by
        rw [add_lit, hWc, hW1, cell_setCells_far b _ _ _ hvb]
        exact hvs j v hj)
      (fun j hj => by rw [hWc]; exact hsp1 _ (by rw [hvl] at hj; omega)) (fun j hj => by rw [hWf, hW1, World.frozen?_setCells]; exact hfz _) h1v
  rw [← hW1] at hcp1
  go_enter Tryd.func32, Tryd.ntmps32
  go_wp2_with (simp only [hov])
  go_region_law (refine step_copy_runI rfl _ _ 23 23 rfl _ _ (by simp [Act.eval, Act.put]) (by simp [Act.eval, Act.put]) (hcp1 _ _ _) ?_)
  go_wp2_with (at_builtin; refine wpList_copy_runI _ rfl _ _ 23 23 rfl _ _ rfl rfl (hcp2 _ (fun _ => rfl) (fun _ => rfl) _ _) ?_)
  go_ret
  first | exact ⟨rfl, rfl⟩ | exact ⟨rfl, by rw [hW1]⟩

set_option maxHeartbeats 4000000 in
set_option maxRecDepth 100000 in
/-- In the middle, without room: a new row. -/
theorem ins_grow (b n c i vb voff m vc : Nat) (cs vs : List Value) (w : World) (hi : i < n) (hm : 0 < m) (hnc : n ≤ c) (hroom : c < n + m) (hbig : (n + m) * 104 ≤ 140737488355328)
    (hcl : cs.length = n * 7) (hvl : vs.length = m * 7)
    (hcs : ∀ j v, cs[j]? = some v → w.cell? ⟨b, j, none⟩ = some v)
    (hvs : ∀ j v, vs[j]? = some v → w.cell? ⟨vb, voff + j, none⟩ = some v) (h1c : ∀ v ∈ cs, v.oneCell' = true) (h1v : ∀ v ∈ vs, v.oneCell' = true) :
    Calls Tryd.prog 32 #[.slice (some ⟨b, 0, none⟩) n c, .int .i64 i, .slice (some ⟨vb, voff, none⟩) m vc] w fun e w' =>
      ∃ G ROW, n + m ≤ G ∧ G ≤ maxLen ∧ ROW.size = G * 7 ∧ ROW.toList.take (i * 7) = cs.take (i * 7) ∧ e = .returned (.slice (some ⟨w.heap.size, 0, none⟩) (n + m) G) ∧
      w' = (((w.alloc (.cells ROW 41)).drew.setCells w.heap.size (i * 7) vs).drew).setCells w.heap.size ((i + m) * 7) (cs.drop (i * 7)) := by
  obtain ⟨i0, hi0, hz0, hzs, hzb⟩ := info_parts sclone_p_info
  have hz1 : ¬ ((m : Int) = 0) := by omega
  have hz2 : ¬ ((i : Int) = (n : Int)) := by omega
  have hz3 : (c : Int) < (n : Int) + (m : Int) := by omega
  have hbw : b < w.heap.size := block_lt_of_cell (hcs 0 _ (List.getElem?_eq_getElem (by omega)))
  have hvw : vb < w.heap.size := block_lt_of_cell (hvs 0 _ (List.getElem?_eq_getElem (by omega)))
  have hkk : (n : Int) + (m : Int) - (i : Int) = ((n + m - i : Nat) : Int) := by omega
  have hik : i + (n + m - i) = n + m := by omega
  have hold : (Builtin.firstCells i0.size i (.slice (some ⟨b, 0, none⟩) i c)).run Tryd.prog w.drew = .ok (cs.take (i * 7)).toArray w.drew := by
    rw [hzs]
    exact run_firstCells_some w.drew 7 i ⟨b, 0, none⟩ i c (cs.take (i * 7)) (by rw [List.length_take]; omega) (fun j v hj => by
      rw [add_lit]
      rw [List.getElem?_take] at hj
      split at hj
      · rw [Nat.zero_add]; exact hcs j v hj
      · cases hj)
  have hrz : ∀ ty, (Builtin.append_ #[23, 3] ty #[.slice (some ⟨b, 0, none⟩) i c, .int .i64 ((n : Int) + (m : Int) - (i : Int))]).run Tryd.prog w =
      .ok (.slice (some ⟨w.heap.size, 0, none⟩) (n + m) (grownCap w (n + m) c 41)) (w.drew.alloc (.cells ((cs.take (i * 7)).toArray ++ Builtin.zeroCells (Value.agg #[.string ⟨#[]⟩, .int .i64 0, .bool false, .int .i64 0, .string ⟨#[]⟩, .slice none 0 0, .slice none 0 0]).cells (n + m - i) ++ Builtin.zeroCells (Value.agg #[.string ⟨#[]⟩, .int .i64 0, .bool false, .int .i64 0, .string ⟨#[]⟩, .slice none 0 0, .slice none 0 0]).cells (grownCap w (n + m) c 41 - (n + m))) 41)) := fun ty => by
    have h := Lib.run_append_grow_zeros w 23 3 ty 41 i0 _ .i64 .i64 und_pairs und_int hi0 hz0 (some ⟨b, 0, none⟩) i c (cs.take (i * 7)) hold (n + m - i) (by omega) (by omega) (by omega) (by omega) (by rw [hzb]; omega) (by rw [hzb, hik]; exact growslice_fits hroom hbig)
    rw [hik] at h
    rw [hkk]
    exact h
  obtain ⟨G, hG⟩ : ∃ G, G = grownCap w (n + m) c 41 := ⟨_, rfl⟩
  obtain ⟨ROW, hROW⟩ : ∃ ROW : Array Value, ROW = (cs.take (i * 7)).toArray ++ Builtin.zeroCells (Value.agg #[.string ⟨#[]⟩, .int .i64 0, .bool false, .int .i64 0, .string ⟨#[]⟩, .slice none 0 0, .slice none 0 0]).cells (n + m - i) ++ Builtin.zeroCells (Value.agg #[.string ⟨#[]⟩, .int .i64 0, .bool false, .int .i64 0, .string ⟨#[]⟩, .slice none 0 0, .slice none 0 0]).cells (G - (n + m)) := ⟨_, rfl⟩
  rw [← hG] at hrz
  rw [← hROW] at hrz
  have hGn : n + m ≤ G := by rw [hG]; exact grownCap_ge w _ _ _
  have hGm : G ≤ maxLen := by
    rw [hG]
    exact grownCap_le_maxLen w (n + m) c 41 (by unfold maxLen; omega)
  have hG63 : G ≤ 9223372036854775807 := by
    unfold maxLen at hGm
    omega
  have hRs : ROW.size = G * 7 := by
    rw [hROW]
    simp [Builtin.zeroCells, Value.cells, hcl]
    omega
  have hRt : ROW.toList.take (i * 7) = cs.take (i * 7) := by
    rw [hROW]
    have : (cs.take (i * 7)).length = i * 7 := by rw [List.length_take]; omega
    rw [Array.toList_append, Array.toList_append, List.append_assoc]
    simp only
    rw [List.take_append_of_le_length (by omega), List.take_of_length_le (by omega)]
  have hRl : (n + m) * 7 ≤ ROW.size := by omega
  obtain ⟨W1, hW1⟩ : ∃ W1, W1 = w.drew.alloc (.cells ROW 41) := ⟨_, rfl⟩
  rw [← hW1] at hrz
  have hN : ∀ j, j < (n + m) * 7 → (W1.cell? ⟨w.heap.size, j, none⟩).isSome = true := fun j hj => by
    rw [hW1, World.cell?_alloc_at (w := w.drew) ROW _ w.heap.size j rfl, Array.getElem?_eq_getElem (by omega)]; rfl
  have hNf : ∀ j, W1.frozen? ⟨w.heap.size, j, none⟩ = false := fun j => by rw [hW1]; exact World.frozen?_alloc_at (w := w.drew) ROW _ w.heap.size j rfl
  have hOb : ∀ j v, w.cell? ⟨b, j, none⟩ = some v → W1.cell? ⟨b, j, none⟩ = some v := fun j v h => by rw [hW1, World.cell?_alloc_past (w := w.drew) _ b j hbw]; exact h
  have hOv : ∀ j v, w.cell? ⟨vb, j, none⟩ = some v → W1.cell? ⟨vb, j, none⟩ = some v := fun j v h => by rw [hW1, World.cell?_alloc_past (w := w.drew) _ vb j hvw]; exact h
  have hcpA : ∀ (W : World), (∀ x, W.cell? x = W1.cell? x) → (∀ x, W.frozen? x = W1.frozen? x) → ∀ ty dc, (Builtin.copy_ #[23, 23] ty #[.slice (some ⟨w.heap.size, i * 7, none⟩) (n + m - i) dc, .slice (some ⟨vb, voff, none⟩) m vc]).run Tryd.prog W = .ok (goInt m) (W.setCells w.heap.size (i * 7) vs) := fun W hWc hWf ty dc =>
    run_copy_wide W _ _ ty 41 7 w.heap.size (i * 7) (n + m - i) dc ⟨vb, voff, none⟩ m vc m vs und_pairs pair_size (by simp only [Nat.min_def]; split <;> omega) hvl
      (fun j v hj => by rw [add_lit, hWc]; exact hOv _ v (hvs j v hj))
      (fun j hj => by rw [hWc]; exact hN _ (by rw [hvl] at hj; omega)) (fun j hj => by rw [hWf]; exact hNf _) h1v
  have hGi : ¬ (G = i) := by omega
  have hGim : ¬ (G = i + m) := by omega
  have hci : ¬ (c = i) := by omega
  have hbN : b ≠ w.heap.size := by omega
  have hdl : (cs.drop (i * 7)).length = (n - i) * 7 := by rw [List.length_drop, hcl, Nat.sub_mul]
  have hcpB : ∀ (W : World), (∀ x, W.cell? x = (W1.setCells w.heap.size (i * 7) vs).cell? x) → (∀ x, W.frozen? x = (W1.setCells w.heap.size (i * 7) vs).frozen? x) → ∀ ty dc sc, (Builtin.copy_ #[23, 23] ty #[.slice (some ⟨w.heap.size, (i + m) * 7, none⟩) (n + m - (i + m)) dc, .slice (some ⟨b, i * 7, none⟩) (n - i) sc]).run Tryd.prog W = .ok (goInt (n - i : Nat)) (W.setCells w.heap.size ((i + m) * 7) (cs.drop (i * 7))) := fun W hWc hWf ty dc sc =>
    run_copy_wide W _ _ ty 41 7 w.heap.size ((i + m) * 7) (n + m - (i + m)) dc ⟨b, i * 7, none⟩ (n - i) sc (n - i) (cs.drop (i * 7)) und_pairs pair_size (by simp only [Nat.min_def]; split <;> omega) hdl
      (fun j v hj => by
        rw [add_lit, hWc, cell_setCells_far _ _ _ _ hbN]
        exact hOb _ v (hcs (i * 7 + j) v (by rwa [List.getElem?_drop] at hj)))
      (fun j hj => by rw [hWc]; exact isSome_setCells _ _ (i * 7) _ (fun t ht => hN (i * 7 + t) (by rw [hvl] at ht; omega)) _ (hN _ (by rw [hdl] at hj; omega)))
      (fun j hj => by rw [hWf, World.frozen?_setCells]; exact hNf _) (fun v hv => h1c v (List.mem_of_mem_drop hv))
  subst hW1
  have hE1 : ∀ x, ((w.alloc (.cells ROW 41)).drew).cell? x = (w.drew.alloc (.cells ROW 41)).cell? x := fun x => rfl
  have hE2 : ∀ x, ((w.alloc (.cells ROW 41)).drew).frozen? x = (w.drew.alloc (.cells ROW 41)).frozen? x := fun x => rfl
  have hF1 : ∀ x, (((w.alloc (.cells ROW 41)).drew.setCells w.heap.size (i * 7) vs).drew).cell? x = ((w.drew.alloc (.cells ROW 41)).setCells w.heap.size (i * 7) vs).cell? x := fun x => rfl
  have hF2 : ∀ x, (((w.alloc (.cells ROW 41)).drew.setCells w.heap.size (i * 7) vs).drew).frozen? x = ((w.drew.alloc (.cells ROW 41)).setCells w.heap.size (i * 7) vs).frozen? x := fun x => rfl
  have hw1 : IntKind.i64.wrap ((i : Int) + (m : Int)) = (i : Int) + (m : Int) := by rw [IntKind.wrap_i64]; omega
  have hb1 : (0 : Int) ≤ (i : Int) + (m : Int) := by omega
  have hin : i ≤ n := by omega
  have htn : ((i : Int) + (m : Int)).toNat = i + m := by omega
  have hb3 : (i : Int) ≤ (n : Int) := by omega
  have HRS := Lib.hid hRs
  have HRT := Lib.hid hRt
  clear hkk hik hold hROW hG hRl hRs hRt
  go_enter Tryd.func32, Tryd.ntmps32
  go_wp2_with (first
    | (at_builtin; refine Lib.wpList_append_run _ rfl _ _ _ _ rfl _ _ rfl rfl _ _ (hrz _) ?_)
    | (at_builtin; refine wpList_copy_runI _ rfl _ _ 23 23 rfl _ _ rfl rfl (hcpA _ hE1 hE2 _ _) ?_)
    | (at_builtin; refine wpList_copy_runI _ rfl _ _ 23 23 rfl _ _ rfl rfl (hcpB _ (fun _ => rfl) (fun _ => rfl) _ _ _) ?_))
  go_region_law (refine step_copy_runI rfl _ _ 23 23 rfl (.slice (some ⟨w.heap.size, (i + m) * 7, none⟩) (n + m - (i + m)) (G - (i + m))) (.slice (some ⟨b, i * 7, none⟩) (n - i) (c - i)) (by simp [Act.eval, Act.put]) (by simp [Act.eval, Act.put]) (hcpB _ hF1 hF2 3 (G - (i + m)) (c - i)) ?_)
  go_wp2_with fail
  go_ret
  exact ⟨G, ROW, hGn, hGm, HRS.out, HRT.out, rfl, rfl⟩

end Go.Proofs.YtgbbojnigicnoaaDoor

/- slices.Insert of one pair into a row of the call's own, whichever road it takes. -/
namespace Go.Proofs.YtgbbojnigicnoaaDoor
open Go.RowKit Go.Lib

theorem lay_shift {L xs es : List Value} {p q : Nat} (hq : es.length = q) (hp : p ≤ xs.length) (hL : p + q ≤ L.length) (ht : L.take p = xs.take p) :
    (((L.take (p + q) ++ xs.drop p ++ L.drop (p + q + (xs.drop p).length)).take p ++ es ++ (L.take (p + q) ++ xs.drop p ++ L.drop (p + q + (xs.drop p).length)).drop (p + es.length))).take (xs.length + q) = xs.take p ++ es ++ xs.drop p := by
  have h1 : (L.take (p + q)).length = p + q := by rw [List.length_take]; omega
  have h2 : (L.take (p + q) ++ xs.drop p ++ L.drop (p + q + (xs.drop p).length)).take p = xs.take p := by
    rw [List.append_assoc, List.take_append_of_le_length (by omega), List.take_take, show min p (p + q) = p by omega, ht]
  have h3 : (L.take (p + q) ++ xs.drop p ++ L.drop (p + q + (xs.drop p).length)).drop (p + es.length) = xs.drop p ++ L.drop (p + q + (xs.drop p).length) := by
    rw [List.append_assoc, hq, List.drop_append_of_le_length (by omega), List.drop_of_length_le (by omega), List.nil_append]
  rw [h2, h3, ← List.append_assoc, List.take_append_of_le_length (by simp; omega), List.take_of_length_le (by simp; omega)]

theorem lay_grow {L xs es : List Value} {p q : Nat} (hq : es.length = q) (hp : p ≤ xs.length) (hL : xs.length + q ≤ L.length) (ht : L.take p = xs.take p) :
    (((L.take p ++ es ++ L.drop (p + es.length)).take (p + q) ++ xs.drop p ++ (L.take p ++ es ++ L.drop (p + es.length)).drop (p + q + (xs.drop p).length))).take (xs.length + q) = xs.take p ++ es ++ xs.drop p := by
  have h1 : (L.take p ++ es).length = p + q := by rw [List.length_append, List.length_take]; omega
  have h2 : (L.take p ++ es ++ L.drop (p + es.length)).take (p + q) = xs.take p ++ es := by
    rw [List.take_append_of_le_length (by omega), List.take_of_length_le (by omega), ht]
  rw [h2, List.take_append_of_le_length (by simp; omega), List.take_of_length_le (by simp; omega)]

theorem Blk.shape {w : World} {g : Nat} {t : TypeId} {cs : Array Value} (h : Blk w g t cs) : w.shape? g = some (t, cs.size) := by
  unfold Blk at h
  simp [World.shape?, h]

theorem grown_refl (w : World) (row : Option Nat) : w.grownBy w row := World.grownBy.refl w row
theorem grown_drew {a w : World} {row : Option Nat} (h : a.grownBy w row) : a.grownBy w.drew row := ⟨h.os, h.tape, h.output, h.size, h.block⟩
theorem grown_alloc (w : World) (row : Option Nat) (o : Obj) : w.grownBy (w.alloc o) row :=
  ⟨rfl, rfl, rfl, by simp, fun k hk _ => Below.heap_alloc w o k hk⟩

theorem insert_any (B : Nat) (v : Value) (n i vb ty : Nat) (xs es : List Value) (w : World) (hB : B ≤ w.heap.size) (hi : i ≤ n) (hown : w.ownsRow B 41 7 v n xs) (hbig : (n + 1) * 104 ≤ 140737488355328)
    (hl : es.length = 7) (hes : Blk w vb ty es.toArray) (hne : v.ownBlock ≠ some vb) (h1x : ∀ u ∈ xs, u.oneCell' = true) (h1 : ∀ u ∈ es, u.oneCell' = true) :
    Calls Tryd.prog 32 #[v, .int .i64 i, .slice (some ⟨vb, 0, none⟩) 1 1] w (InsPost B n 1 (xs.take (i * 7) ++ es ++ xs.drop (i * 7)) v w) := by
  have hec : ∀ j u, es[j]? = some u → w.cell? ⟨vb, 0 + j, none⟩ = some u := fun j u hu => by
    rw [Nat.zero_add, hes.cell]
    simpa using hu
  rcases Nat.lt_or_ge i n with hlt | hge
  · obtain ⟨hlen, hcase⟩ := hown
    rcases hcase with ⟨rfl, hn0⟩ | ⟨g, cap, cur, rfl, hg, hh, hnc, hcm, hcs, htk⟩
    · omega
    have hb : Blk w g 41 cur := hh
    have hvg : vb ≠ g := fun e => hne (by rw [e]; rfl)
    have hc63 : cap ≤ 9223372036854775807 := by unfold maxLen at hcm; omega
    have hxc : ∀ j u, xs[j]? = some u → w.cell? ⟨g, j, none⟩ = some u := fun j u hu => by
      rw [hb.cell]
      have hj := (List.getElem?_eq_some_iff.1 hu).1
      rw [← htk, List.getElem?_take_of_lt (by omega)] at hu
      simpa using hu
    have hp : i * 7 ≤ xs.length := by omega
    have ht0 : cur.toList.take (i * 7) = xs.take (i * 7) := by
      rw [← htk, List.take_take, show min (i * 7) (n * 7) = i * 7 by omega]
    rcases Nat.lt_or_ge cap (n + 1) with hfull | hroom
    · refine (ins_grow g n cap i vb 0 1 1 xs es w hlt (by omega) hnc hfull hbig hlen (by omega) hxc hec h1x h1).mono ?_
      rintro e w' ⟨G, ROW, hG, hGm, hRs, hRt, rfl, rfl⟩
      have hb0 : Blk ((w.alloc (.cells ROW 41)).drew) w.heap.size 41 ROW := (Blk.new w 41 ROW).drew
      have hb1 := (hb0.setCells es (i * 7) (by omega)).drew
      have hz1 : (ROW.toList.take (i * 7) ++ es ++ ROW.toList.drop (i * 7 + es.length)).toArray.size = ROW.size := by simp; omega
      have hb2 := hb1.setCells (xs.drop (i * 7)) ((i + 1) * 7) (by rw [hz1, List.length_drop]; omega)
      refine ⟨_, rfl, ⟨?_, Or.inr ⟨w.heap.size, G, _, rfl, hB, hb2, hG, hGm, ?_, ?_⟩⟩, ?_, Or.inr rfl⟩
      · simp; omega
      · simp; omega
      · have := lay_grow (L := ROW.toList) (xs := xs) (es := es) (p := i * 7) (q := 7) hl hp (by simp; omega) hRt
        rw [show xs.length + 7 = (n + 1) * 7 by omega, show i * 7 + 7 = (i + 1) * 7 by omega] at this
        simpa only [List.toList_toArray] using this
      · exact grown_setCells (grown_drew (grown_setCells (grown_drew (grown_alloc w _ _)) (Or.inr (Nat.le_refl _)) _ _)) (Or.inr (Nat.le_refl _)) _ _
    · refine (ins_shift g n cap i vb 0 1 1 xs es w hlt (by omega) hroom hc63 hvg hlen (by omega) hxc (fun j hj => ?_) (fun j => hb.frozen j) hec h1x h1 _ _ _ _ hes.shape hb.shape (by omega) (fun j => hes.frozen j)).mono ?_
      · rw [hb.cell, Array.getElem?_eq_getElem (by omega)]
        rfl
      rintro e w' ⟨rfl, rfl⟩
      have hb1 := hb.drew.setCells (xs.drop (i * 7)) ((i + 1) * 7) (by rw [List.length_drop]; omega)
      have hz1 : (cur.toList.take ((i + 1) * 7) ++ xs.drop (i * 7) ++ cur.toList.drop ((i + 1) * 7 + (xs.drop (i * 7)).length)).toArray.size = cur.size := by simp; omega
      have hb2 := hb1.setCells es (i * 7) (by omega)
      refine ⟨_, rfl, ⟨?_, Or.inr ⟨g, cap, _, rfl, hg, hb2, hroom, hcm, ?_, ?_⟩⟩, ?_, Or.inl rfl⟩
      · simp; omega
      · simp; omega
      · have := lay_shift (L := cur.toList) (xs := xs) (es := es) (p := i * 7) (q := 7) hl hp (by simp; omega) ht0
        rw [show xs.length + 7 = (n + 1) * 7 by omega, show i * 7 + 7 = (i + 1) * 7 by omega] at this
        simpa only [List.toList_toArray] using this
      · exact grown_setCells (grown_setCells (grown_drew (grown_refl w _)) (Or.inl rfl) _ _) (Or.inl rfl) _ _
  · obtain rfl : i = n := by omega
    rw [List.take_of_length_le (by rw [hown.1]; omega), List.drop_of_length_le (by rw [hown.1]; omega), List.append_nil]
    exact ins_end B v i vb 0 1 1 xs es w hB (by omega) hown hbig (by omega) (fun j u hu => by rw [add_lit]; exact hec j u hu) h1

end Go.Proofs.YtgbbojnigicnoaaDoor

