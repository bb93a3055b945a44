/- slices.Insert of an object into a row of the call's own, whichever road it takes: XInsert and XInsertAny turned to objects (gen/inserto.py). -/
import Derived.Test.YtdgeegfoocoohaaDoorInsertAny
namespace Go.Proofs.YtdgeegfoocoohaaDoor
open Go.RowKit Go.Lib

theorem obj_infoO : (Tryd.prog.info? 35).map (fun i => (i.zero, i.size, i.bytes)) = some (some (.agg #[.string ⟨#[]⟩, .string ⟨#[]⟩, .string ⟨#[]⟩, .int .i64 0, .bool false, .int .i64 0, .string ⟨#[]⟩, .slice none 0 0, .slice none 0 0]), 9, 136) := by kernel_rfl
/-- What Insert leaves: a row of the call's own with the cells laid in. -/
def InsPostO (B n m : Nat) (xs' : List Value) (v : Value) (w : World) (e : Ending) (w' : World) : Prop :=
  ∃ v', e = .returned v' ∧ w'.ownsRow B 35 9 v' (n + m) xs' ∧ w.grownBy w' v.ownBlock ∧ (v'.ownBlock = v.ownBlock ∨ v'.ownBlock = some w.heap.size)

set_option maxHeartbeats 1000000 in
set_option maxRecDepth 100000 in
/-- At the end. -/
theorem ins_endO (B : Nat) (v : Value) (n vb voff m vc : Nat) (xs es : List Value) (w : World) (hB : B ≤ w.heap.size) (hm : 0 < m) (hown : w.ownsRow B 35 9 v n xs) (hbig : (n + m) * 136 ≤ 140737488355328)
    (hl : es.length = m * 9) (hes : ∀ j u, es[j]? = some u → w.cell? ((⟨vb, voff, none⟩ : Addr).add j) = some u) (h1 : ∀ u ∈ es, u.oneCell' = true) :
    Calls Tryd.prog 15 #[v, .int .i64 n, .slice (some ⟨vb, voff, none⟩) m vc] w (InsPostO B n m (xs ++ es) v w) := by
  obtain ⟨i0, hi, hz0, hz1, hz2⟩ := info_parts obj_infoO
  have hmax : n + m ≤ maxLen := by unfold maxLen; omega
  have hnm : ¬ ((m : Int) = 0) := by omega
  have hcase := hown.2
  have HO := Lib.hid hown
  have HL := Lib.hid hl
  clear hown hl
  rcases hcase with ⟨rfl, hn0⟩ | ⟨g, cap, cur, rfl, hg, hh, hnc, hcm, hcs, htk⟩
  · subst hn0
    go_enter Tryd.func15, Tryd.ntmps15
    go_wp2_with (at_builtin; refine wpList_append_own_at _ rfl (.tmp 23) (.tmp 24) 22 rfl B 35 i0 _ 9 136 Tryd.underlying22 hi hz0 hz1 hz2 rfl (by omega) _ 0 xs rfl HO.out ⟨vb, voff, none⟩ m vc es rfl HL.out hes h1 hmax hbig hB ?_; intro v' w1 hown hgr hnl hat)
    all_goals (go_ret; exact ⟨_, rfl, hown, hgr, hat⟩)
  · have hcap : cap ≤ 9223372036854775807 := by unfold maxLen at hcm; omega
    clear hcs htk hh hg
    go_enter Tryd.func15, Tryd.ntmps15
    go_wp2_with (at_builtin; refine wpList_append_own_at _ rfl (.tmp 23) (.tmp 24) 22 rfl B 35 i0 _ 9 136 Tryd.underlying22 hi hz0 hz1 hz2 rfl (by omega) _ n xs rfl HO.out ⟨vb, voff, none⟩ m vc es rfl HL.out hes h1 hmax hbig hB ?_; intro v' w1 hown hgr hnl hat)
    all_goals (go_ret; exact ⟨_, rfl, hown, hgr, hat⟩)

theorem obj_sizeO : (Tryd.prog.info? 35).map (·.size) = some 9 := by kernel_rfl
theorem obj_sizeOfO (w : World) : (Go.sizeOf 35).run Tryd.prog w = .ok 9 w := by
  obtain ⟨i0, hi, hz0, hz1, hz2⟩ := info_parts obj_infoO
  simp [sizeOf, typeInfo, hi, hz1]
theorem und_objsO : Tryd.prog.underlying 22 = some (.slice 35) := by kernel_rfl

set_option maxHeartbeats 4000000 in
set_option maxRecDepth 100000 in
/-- In the middle, with room. -/
theorem ins_shiftO (b n c i vb voff m vc : Nat) (cs vs : List Value) (w : World) (hi : i < n) (hm : 0 < m) (hroom : n + m ≤ c) (hc63 : c ≤ 9223372036854775807) (hvb : vb ≠ b)
    (hcl : cs.length = n * 9) (hvl : vs.length = m * 9)
    (hcs : ∀ j v, cs[j]? = some v → w.cell? ⟨b, j, none⟩ = some v) (hsp : ∀ j, j < (n + m) * 9 → (w.cell? ⟨b, j, none⟩).isSome = true) (hfz : ∀ j, w.frozen? ⟨b, j, none⟩ = false)
    (hvs : ∀ j v, vs[j]? = some v → w.cell? ⟨vb, voff + j, none⟩ = some v) (h1c : ∀ v ∈ cs, v.oneCell' = true) (h1v : ∀ v ∈ vs, v.oneCell' = true)
    (tA tB : TypeId) (kA kB : Nat) (hsa : w.shape? vb = some (tA, kA)) (hsb : w.shape? b = some (tB, kB)) (hkB : kB ≠ 0) (hfa : ∀ j, w.frozen? ⟨vb, j, none⟩ = false) :
    Calls Tryd.prog 15 #[.slice (some ⟨b, 0, none⟩) n c, .int .i64 i, .slice (some ⟨vb, voff, none⟩) m vc] w fun e w' =>
      e = .returned (.slice (some ⟨b, 0, none⟩) (n + m) c) ∧ w' = (w.drew.setCells b ((i + m) * 9) (cs.drop (i * 9))).setCells b (i * 9) vs := by
  have hz1 : ¬ ((m : Int) = 0) := by omega
  have hz2 : ¬ ((i : Int) = (n : Int)) := by omega
  have hov : ∀ lb cb, (callFunc 26 #[.slice (some ⟨vb, voff, none⟩) m vc, .slice (some ⟨b, (i + m) * 9, none⟩) lb cb]).run Tryd.prog w = .ok (.value (.bool false)) w := fun lb cb => by
    rw [run_callFunc_extern Tryd.func26 (by kernel_rfl) (by kernel_rfl) (by kernel_rfl) (e := Extern.SlicesOverlaps.overlaps #[22, 22] #[4]) (by kernel_rfl),
      Lib.run_overlaps_apart w 22 4 35 und_objsO 9 obj_sizeOfO ⟨vb, voff, none⟩ ⟨b, (i + m) * 9, none⟩ m vc lb cb hvb tA tB kA kB hsa hsb hkB (hfa _) (hfa _)]
    rfl
  have hdl : (cs.drop (i * 9)).length = (n - i) * 9 := by rw [List.length_drop, hcl, Nat.sub_mul]
  have hw1 : IntKind.i64.wrap ((i : Int) + (m : Int)) = (i : Int) + (m : Int) := by rw [IntKind.wrap_i64]; omega
  have hb1 : (0 : Int) ≤ (i : Int) + (m : Int) := by omega
  have hin : i ≤ n := by omega
  have htn : ((i : Int) + (m : Int)).toNat = i + m := by omega
  have hb2 : ¬ (c = i + m) := by omega
  have hb3 : (i : Int) ≤ (n : Int) + (m : Int) := by omega
  have hb4 : ¬ (c = i) := by omega
  have hcp1 : ∀ ty dc sc, (Builtin.copy_ #[22, 22] ty #[.slice (some ⟨b, (i + m) * 9, none⟩) (n + m - (i + m)) dc, .slice (some ⟨b, i * 9, none⟩) (n + m - i) sc]).run Tryd.prog w.drew = .ok (goInt (n - i : Nat)) (w.drew.setCells b ((i + m) * 9) (cs.drop (i * 9))) := fun ty dc sc =>
    run_copy_wide w.drew _ _ ty 35 9 b ((i + m) * 9) (n + m - (i + m)) dc ⟨b, i * 9, none⟩ (n + m - i) sc (n - i) (cs.drop (i * 9)) und_objsO obj_sizeO (by simp only [Nat.min_def]; split <;> omega) hdl
      (fun j v hj => by rw [add_lit]; exact hcs (i * 9 + j) v (by rwa [List.getElem?_drop] at hj))
      (fun j hj => hsp _ (by rw [hdl] at hj; omega)) (fun j hj => hfz _) (fun v hv => h1c v (List.mem_of_mem_drop hv))
  obtain ⟨W1, hW1⟩ : ∃ W1, W1 = w.drew.setCells b ((i + m) * 9) (cs.drop (i * 9)) := ⟨_, rfl⟩
  have hsp1 : ∀ k, k < (n + m) * 9 → (W1.cell? ⟨b, k, none⟩).isSome = true := fun k hk => by
    rw [hW1]
    exact isSome_setCells b _ ((i + m) * 9) w.drew (fun j hj => hsp ((i + m) * 9 + j) (by rw [hdl] at hj; omega)) _ (hsp k hk)
  have hcp2 : ∀ (W : World), (∀ x, W.cell? x = W1.cell? x) → (∀ x, W.frozen? x = W1.frozen? x) → ∀ ty dc, (Builtin.copy_ #[22, 22] ty #[.slice (some ⟨b, i * 9, none⟩) (n + m - i) dc, .slice (some ⟨vb, voff, none⟩) m vc]).run Tryd.prog W = .ok (goInt m) (W.setCells b (i * 9) vs) := fun W hWc hWf ty dc =>
    run_copy_wide W _ _ ty 35 9 b (i * 9) (n + m - i) dc ⟨vb, voff, none⟩ m vc m vs und_objsO obj_sizeO (by simp only [Nat.min_def]; split <;> omega) hvl
      (fun j v hj => by
        rw [add_lit, hWc, hW1, cell_setCells_far b _ _ _ hvb]
        exact hvs j v hj)
      (fun j hj => by rw [hWc]; exact hsp1 _ (by rw [hvl] at hj; omega)) (fun j hj => by rw [hWf, hW1, World.frozen?_setCells]; exact hfz _) h1v
  rw [← hW1] at hcp1
  go_enter Tryd.func15, Tryd.ntmps15
  go_wp2_with (simp only [hov])
  go_region_law (refine step_copy_runI rfl _ _ 22 22 rfl _ _ (by simp [Act.eval, Act.put]) (by simp [Act.eval, Act.put]) (hcp1 _ _ _) ?_)
  go_wp2_with (at_builtin; refine wpList_copy_runI _ rfl _ _ 22 22 rfl _ _ rfl rfl (hcp2 _ (fun _ => rfl) (fun _ => rfl) _ _) ?_)
  go_ret
  first | exact ⟨rfl, rfl⟩ | exact ⟨rfl, by rw [hW1]⟩

set_option maxHeartbeats 4000000 in
set_option maxRecDepth 100000 in
/-- In the middle, without room: a new row. -/
theorem ins_growO (b n c i vb voff m vc : Nat) (cs vs : List Value) (w : World) (hi : i < n) (hm : 0 < m) (hnc : n ≤ c) (hroom : c < n + m) (hbig : (n + m) * 136 ≤ 140737488355328)
    (hcl : cs.length = n * 9) (hvl : vs.length = m * 9)
    (hcs : ∀ j v, cs[j]? = some v → w.cell? ⟨b, j, none⟩ = some v)
    (hvs : ∀ j v, vs[j]? = some v → w.cell? ⟨vb, voff + j, none⟩ = some v) (h1c : ∀ v ∈ cs, v.oneCell' = true) (h1v : ∀ v ∈ vs, v.oneCell' = true) :
    Calls Tryd.prog 15 #[.slice (some ⟨b, 0, none⟩) n c, .int .i64 i, .slice (some ⟨vb, voff, none⟩) m vc] w fun e w' =>
      ∃ G ROW, n + m ≤ G ∧ G ≤ maxLen ∧ ROW.size = G * 9 ∧ ROW.toList.take (i * 9) = cs.take (i * 9) ∧ e = .returned (.slice (some ⟨w.heap.size, 0, none⟩) (n + m) G) ∧
      w' = (((w.alloc (.cells ROW 35)).drew.setCells w.heap.size (i * 9) vs).drew).setCells w.heap.size ((i + m) * 9) (cs.drop (i * 9)) := by
  obtain ⟨i0, hi0, hz0, hzs, hzb⟩ := info_parts obj_infoO
  have hz1 : ¬ ((m : Int) = 0) := by omega
  have hz2 : ¬ ((i : Int) = (n : Int)) := by omega
  have hz3 : (c : Int) < (n : Int) + (m : Int) := by omega
  have hbw : b < w.heap.size := block_lt_of_cell (hcs 0 _ (List.getElem?_eq_getElem (by omega)))
  have hvw : vb < w.heap.size := block_lt_of_cell (hvs 0 _ (List.getElem?_eq_getElem (by omega)))
  have hkk : (n : Int) + (m : Int) - (i : Int) = ((n + m - i : Nat) : Int) := by omega
  have hik : i + (n + m - i) = n + m := by omega
  have hold : (Builtin.firstCells i0.size i (.slice (some ⟨b, 0, none⟩) i c)).run Tryd.prog w.drew = .ok (cs.take (i * 9)).toArray w.drew := by
    rw [hzs]
    exact run_firstCells_some w.drew 9 i ⟨b, 0, none⟩ i c (cs.take (i * 9)) (by rw [List.length_take]; omega) (fun j v hj => by
      rw [add_lit]
      rw [List.getElem?_take] at hj
      split at hj
      · rw [Nat.zero_add]; exact hcs j v hj
      · cases hj)
  have hrz : ∀ ty, (Builtin.append_ #[22, 3] ty #[.slice (some ⟨b, 0, none⟩) i c, .int .i64 ((n : Int) + (m : Int) - (i : Int))]).run Tryd.prog w =
      .ok (.slice (some ⟨w.heap.size, 0, none⟩) (n + m) (grownCap w (n + m) c 35)) (w.drew.alloc (.cells ((cs.take (i * 9)).toArray ++ Builtin.zeroCells (Value.agg #[.string ⟨#[]⟩, .string ⟨#[]⟩, .string ⟨#[]⟩, .int .i64 0, .bool false, .int .i64 0, .string ⟨#[]⟩, .slice none 0 0, .slice none 0 0]).cells (n + m - i) ++ Builtin.zeroCells (Value.agg #[.string ⟨#[]⟩, .string ⟨#[]⟩, .string ⟨#[]⟩, .int .i64 0, .bool false, .int .i64 0, .string ⟨#[]⟩, .slice none 0 0, .slice none 0 0]).cells (grownCap w (n + m) c 35 - (n + m))) 35)) := fun ty => by
    have h := Lib.run_append_grow_zeros w 22 3 ty 35 i0 _ .i64 .i64 und_objsO und_int hi0 hz0 (some ⟨b, 0, none⟩) i c (cs.take (i * 9)) hold (n + m - i) (by omega) (by omega) (by omega) (by omega) (by rw [hzb]; omega) (by rw [hzb, hik]; exact growslice_fits hroom hbig)
    rw [hik] at h
    rw [hkk]
    exact h
  obtain ⟨G, hG⟩ : ∃ G, G = grownCap w (n + m) c 35 := ⟨_, rfl⟩
  obtain ⟨ROW, hROW⟩ : ∃ ROW : Array Value, ROW = (cs.take (i * 9)).toArray ++ Builtin.zeroCells (Value.agg #[.string ⟨#[]⟩, .string ⟨#[]⟩, .string ⟨#[]⟩, .int .i64 0, .bool false, .int .i64 0, .string ⟨#[]⟩, .slice none 0 0, .slice none 0 0]).cells (n + m - i) ++ Builtin.zeroCells (Value.agg #[.string ⟨#[]⟩, .string ⟨#[]⟩, .string ⟨#[]⟩, .int .i64 0, .bool false, .int .i64 0, .string ⟨#[]⟩, .slice none 0 0, .slice none 0 0]).cells (G - (n + m)) := ⟨_, rfl⟩
  rw [← hG] at hrz
  rw [← hROW] at hrz
  have hGn : n + m ≤ G := by rw [hG]; exact grownCap_ge w _ _ _
  have hGm : G ≤ maxLen := by
    rw [hG]
    exact grownCap_le_maxLen w (n + m) c 35 (by unfold maxLen; omega)
  have hG63 : G ≤ 9223372036854775807 := by
    unfold maxLen at hGm
    omega
  have hRs : ROW.size = G * 9 := by
    rw [hROW]
    simp [Builtin.zeroCells, Value.cells, hcl]
    omega
  have hRt : ROW.toList.take (i * 9) = cs.take (i * 9) := by
    rw [hROW]
    have : (cs.take (i * 9)).length = i * 9 := by rw [List.length_take]; omega
    rw [Array.toList_append, Array.toList_append, List.append_assoc]
    simp only
    rw [List.take_append_of_le_length (by omega), List.take_of_length_le (by omega)]
  have hRl : (n + m) * 9 ≤ ROW.size := by omega
  obtain ⟨W1, hW1⟩ : ∃ W1, W1 = w.drew.alloc (.cells ROW 35) := ⟨_, rfl⟩
  rw [← hW1] at hrz
  have hN : ∀ j, j < (n + m) * 9 → (W1.cell? ⟨w.heap.size, j, none⟩).isSome = true := fun j hj => by
    rw [hW1, World.cell?_alloc_at (w := w.drew) ROW _ w.heap.size j rfl, Array.getElem?_eq_getElem (by omega)]; rfl
  have hNf : ∀ j, W1.frozen? ⟨w.heap.size, j, none⟩ = false := fun j => by rw [hW1]; exact World.frozen?_alloc_at (w := w.drew) ROW _ w.heap.size j rfl
  have hOb : ∀ j v, w.cell? ⟨b, j, none⟩ = some v → W1.cell? ⟨b, j, none⟩ = some v := fun j v h => by rw [hW1, World.cell?_alloc_past (w := w.drew) _ b j hbw]; exact h
  have hOv : ∀ j v, w.cell? ⟨vb, j, none⟩ = some v → W1.cell? ⟨vb, j, none⟩ = some v := fun j v h => by rw [hW1, World.cell?_alloc_past (w := w.drew) _ vb j hvw]; exact h
  have hcpA : ∀ (W : World), (∀ x, W.cell? x = W1.cell? x) → (∀ x, W.frozen? x = W1.frozen? x) → ∀ ty dc, (Builtin.copy_ #[22, 22] ty #[.slice (some ⟨w.heap.size, i * 9, none⟩) (n + m - i) dc, .slice (some ⟨vb, voff, none⟩) m vc]).run Tryd.prog W = .ok (goInt m) (W.setCells w.heap.size (i * 9) vs) := fun W hWc hWf ty dc =>
    run_copy_wide W _ _ ty 35 9 w.heap.size (i * 9) (n + m - i) dc ⟨vb, voff, none⟩ m vc m vs und_objsO obj_sizeO (by simp only [Nat.min_def]; split <;> omega) hvl
      (fun j v hj => by rw [add_lit, hWc]; exact hOv _ v (hvs j v hj))
      (fun j hj => by rw [hWc]; exact hN _ (by rw [hvl] at hj; omega)) (fun j hj => by rw [hWf]; exact hNf _) h1v
  have hGi : ¬ (G = i) := by omega
  have hGim : ¬ (G = i + m) := by omega
  have hci : ¬ (c = i) := by omega
  have hbN : b ≠ w.heap.size := by omega
  have hdl : (cs.drop (i * 9)).length = (n - i) * 9 := by rw [List.length_drop, hcl, Nat.sub_mul]
  have hcpB : ∀ (W : World), (∀ x, W.cell? x = (W1.setCells w.heap.size (i * 9) vs).cell? x) → (∀ x, W.frozen? x = (W1.setCells w.heap.size (i * 9) vs).frozen? x) → ∀ ty dc sc, (Builtin.copy_ #[22, 22] ty #[.slice (some ⟨w.heap.size, (i + m) * 9, none⟩) (n + m - (i + m)) dc, .slice (some ⟨b, i * 9, none⟩) (n - i) sc]).run Tryd.prog W = .ok (goInt (n - i : Nat)) (W.setCells w.heap.size ((i + m) * 9) (cs.drop (i * 9))) := fun W hWc hWf ty dc sc =>
    run_copy_wide W _ _ ty 35 9 w.heap.size ((i + m) * 9) (n + m - (i + m)) dc ⟨b, i * 9, none⟩ (n - i) sc (n - i) (cs.drop (i * 9)) und_objsO obj_sizeO (by simp only [Nat.min_def]; split <;> omega) hdl
      (fun j v hj => by
        rw [add_lit, hWc, cell_setCells_far _ _ _ _ hbN]
        exact hOb _ v (hcs (i * 9 + j) v (by rwa [List.getElem?_drop] at hj)))
      (fun j hj => by rw [hWc]; exact isSome_setCells _ _ (i * 9) _ (fun t ht => hN (i * 9 + t) (by rw [hvl] at ht; omega)) _ (hN _ (by rw [hdl] at hj; omega)))
      (fun j hj => by rw [hWf, World.frozen?_setCells]; exact hNf _) (fun v hv => h1c v (List.mem_of_mem_drop hv))
  subst hW1
  have hE1 : ∀ x, ((w.alloc (.cells ROW 35)).drew).cell? x = (w.drew.alloc (.cells ROW 35)).cell? x := fun x => rfl
  have hE2 : ∀ x, ((w.alloc (.cells ROW 35)).drew).frozen? x = (w.drew.alloc (.cells ROW 35)).frozen? x := fun x => rfl
  have hF1 : ∀ x, (((w.alloc (.cells ROW 35)).drew.setCells w.heap.size (i * 9) vs).drew).cell? x = ((w.drew.alloc (.cells ROW 35)).setCells w.heap.size (i * 9) vs).cell? x := fun x => rfl
  have hF2 : ∀ x, (((w.alloc (.cells ROW 35)).drew.setCells w.heap.size (i * 9) vs).drew).frozen? x = ((w.drew.alloc (.cells ROW 35)).setCells w.heap.size (i * 9) vs).frozen? x := fun x => rfl
  have hw1 : IntKind.i64.wrap ((i : Int) + (m : Int)) = (i : Int) + (m : Int) := by rw [IntKind.wrap_i64]; omega
  have hb1 : (0 : Int) ≤ (i : Int) + (m : Int) := by omega
  have hin : i ≤ n := by omega
  have htn : ((i : Int) + (m : Int)).toNat = i + m := by omega
  have hb3 : (i : Int) ≤ (n : Int) := by omega
  have HRS := Lib.hid hRs
  have HRT := Lib.hid hRt
  clear hkk hik hold hROW hG hRl hRs hRt
  go_enter Tryd.func15, Tryd.ntmps15
  go_wp2_with (first
    | (at_builtin; refine Lib.wpList_append_run _ rfl _ _ _ _ rfl _ _ rfl rfl _ _ (hrz _) ?_)
    | (at_builtin; refine wpList_copy_runI _ rfl _ _ 22 22 rfl _ _ rfl rfl (hcpA _ hE1 hE2 _ _) ?_)
    | (at_builtin; refine wpList_copy_runI _ rfl _ _ 22 22 rfl _ _ rfl rfl (hcpB _ (fun _ => rfl) (fun _ => rfl) _ _ _) ?_))
  go_region_law (refine step_copy_runI rfl _ _ 22 22 rfl (.slice (some ⟨w.heap.size, (i + m) * 9, none⟩) (n + m - (i + m)) (G - (i + m))) (.slice (some ⟨b, i * 9, none⟩) (n - i) (c - i)) (by simp [Act.eval, Act.put]) (by simp [Act.eval, Act.put]) (hcpB _ hF1 hF2 3 (G - (i + m)) (c - i)) ?_)
  go_wp2_with fail
  go_ret
  exact ⟨G, ROW, hGn, hGm, HRS.out, HRT.out, rfl, rfl⟩

theorem insert_anyO (B : Nat) (v : Value) (n i vb ty : Nat) (xs es : List Value) (w : World) (hB : B ≤ w.heap.size) (hi : i ≤ n) (hown : w.ownsRow B 35 9 v n xs) (hbig : (n + 1) * 136 ≤ 140737488355328)
    (hl : es.length = 9) (hes : Blk w vb ty es.toArray) (hne : v.ownBlock ≠ some vb) (h1x : ∀ u ∈ xs, u.oneCell' = true) (h1 : ∀ u ∈ es, u.oneCell' = true) :
    Calls Tryd.prog 15 #[v, .int .i64 i, .slice (some ⟨vb, 0, none⟩) 1 1] w (InsPostO B n 1 (xs.take (i * 9) ++ es ++ xs.drop (i * 9)) v w) := by
  have hec : ∀ j u, es[j]? = some u → w.cell? ⟨vb, 0 + j, none⟩ = some u := fun j u hu => by
    rw [Nat.zero_add, hes.cell]
    simpa using hu
  rcases Nat.lt_or_ge i n with hlt | hge
  · obtain ⟨hlen, hcase⟩ := hown
    rcases hcase with ⟨rfl, hn0⟩ | ⟨g, cap, cur, rfl, hg, hh, hnc, hcm, hcs, htk⟩
    · omega
    have hb : Blk w g 35 cur := hh
    have hvg : vb ≠ g := fun e => hne (by rw [e]; rfl)
    have hc63 : cap ≤ 9223372036854775807 := by unfold maxLen at hcm; omega
    have hxc : ∀ j u, xs[j]? = some u → w.cell? ⟨g, j, none⟩ = some u := fun j u hu => by
      rw [hb.cell]
      have hj := (List.getElem?_eq_some_iff.1 hu).1
      rw [← htk, List.getElem?_take_of_lt (by omega)] at hu
      simpa using hu
    have hp : i * 9 ≤ xs.length := by omega
    have ht0 : cur.toList.take (i * 9) = xs.take (i * 9) := by
      rw [← htk, List.take_take, show min (i * 9) (n * 9) = i * 9 by omega]
    rcases Nat.lt_or_ge cap (n + 1) with hfull | hroom
    · refine (ins_growO g n cap i vb 0 1 1 xs es w hlt (by omega) hnc hfull hbig hlen (by omega) hxc hec h1x h1).mono ?_
      rintro e w' ⟨G, ROW, hG, hGm, hRs, hRt, rfl, rfl⟩
      have hb0 : Blk ((w.alloc (.cells ROW 35)).drew) w.heap.size 35 ROW := (Blk.new w 35 ROW).drew
      have hb1 := (hb0.setCells es (i * 9) (by omega)).drew
      have hz1 : (ROW.toList.take (i * 9) ++ es ++ ROW.toList.drop (i * 9 + es.length)).toArray.size = ROW.size := by simp; omega
      have hb2 := hb1.setCells (xs.drop (i * 9)) ((i + 1) * 9) (by rw [hz1, List.length_drop]; omega)
      refine ⟨_, rfl, ⟨?_, Or.inr ⟨w.heap.size, G, _, rfl, hB, hb2, hG, hGm, ?_, ?_⟩⟩, ?_, Or.inr rfl⟩
      · simp; omega
      · simp; omega
      · have := lay_grow (L := ROW.toList) (xs := xs) (es := es) (p := i * 9) (q := 9) hl hp (by simp; omega) hRt
        rw [show xs.length + 9 = (n + 1) * 9 by omega, show i * 9 + 9 = (i + 1) * 9 by omega] at this
        simpa only [List.toList_toArray] using this
      · exact grown_setCells (grown_drew (grown_setCells (grown_drew (grown_alloc w _ _)) (Or.inr (Nat.le_refl _)) _ _)) (Or.inr (Nat.le_refl _)) _ _
    · refine (ins_shiftO g n cap i vb 0 1 1 xs es w hlt (by omega) hroom hc63 hvg hlen (by omega) hxc (fun j hj => ?_) (fun j => hb.frozen j) hec h1x h1 _ _ _ _ hes.shape hb.shape (by omega) (fun j => hes.frozen j)).mono ?_
      · rw [hb.cell, Array.getElem?_eq_getElem (by omega)]
        rfl
      rintro e w' ⟨rfl, rfl⟩
      have hb1 := hb.drew.setCells (xs.drop (i * 9)) ((i + 1) * 9) (by rw [List.length_drop]; omega)
      have hz1 : (cur.toList.take ((i + 1) * 9) ++ xs.drop (i * 9) ++ cur.toList.drop ((i + 1) * 9 + (xs.drop (i * 9)).length)).toArray.size = cur.size := by simp; omega
      have hb2 := hb1.setCells es (i * 9) (by omega)
      refine ⟨_, rfl, ⟨?_, Or.inr ⟨g, cap, _, rfl, hg, hb2, hroom, hcm, ?_, ?_⟩⟩, ?_, Or.inl rfl⟩
      · simp; omega
      · simp; omega
      · have := lay_shift (L := cur.toList) (xs := xs) (es := es) (p := i * 9) (q := 9) hl hp (by simp; omega) ht0
        rw [show xs.length + 9 = (n + 1) * 9 by omega, show i * 9 + 9 = (i + 1) * 9 by omega] at this
        simpa only [List.toList_toArray] using this
      · exact grown_setCells (grown_setCells (grown_drew (grown_refl w _)) (Or.inl rfl) _ _) (Or.inl rfl) _ _
  · obtain rfl : i = n := by omega
    rw [List.take_of_length_le (by rw [hown.1]; omega), List.drop_of_length_le (by rw [hown.1]; omega), List.append_nil]
    exact ins_endO B v i vb 0 1 1 xs es w hB (by omega) hown hbig (by omega) (fun j u hu => by rw [add_lit]; exact hec j u hu) h1

end Go.Proofs.YtdgeegfoocoohaaDoor
