/- Size and depth of a value: the program's functions and the reference's. -/
import Derived.Test.YtgbbojnigicnoaaDoorRows
import Derived.Test.YtgbbojnigicnoaaDoorRep
namespace Go.Proofs.YtgbbojnigicnoaaDoor
open Go.RowKit

mutual
def T.size : T → Nat
  | .mk _ _ _ _ l m => 1 + T.sizeL l + T.sizeM m
def T.sizeL : List T → Nat
  | [] => 0
  | x :: l => x.size + T.sizeL l
def T.sizeM : List (ByteArray × T) → Nat
  | [] => 0
  | p :: l => T.sizeP p + T.sizeM l
def T.sizeP : (ByteArray × T) → Nat
  | (_, x) => x.size
end
mutual
def T.depth : T → Nat
  | .mk _ _ _ _ l m => 1 + max (T.depthL l) (T.depthM m)
def T.depthL : List T → Nat
  | [] => 0
  | x :: l => max x.depth (T.depthL l)
def T.depthM : List (ByteArray × T) → Nat
  | [] => 0
  | p :: l => max (T.depthP p) (T.depthM l)
def T.depthP : (ByteArray × T) → Nat
  | (_, x) => x.depth
end
theorem T.size_eq (t : T) : t.size = 1 + T.sizeL t.list + T.sizeM t.map := by cases t; simp [T.size, T.list, T.map]
theorem T.depth_eq (t : T) : t.depth = 1 + max (T.depthL t.list) (T.depthM t.map) := by cases t; simp [T.depth, T.list, T.map]
theorem T.sizeL_take (l : List T) (k : Nat) (h : k < l.length) : T.sizeL (l.take (k + 1)) = T.sizeL (l.take k) + l[k].size := by
  induction l generalizing k with
  | nil => simp at h
  | cons x l ih =>
    cases k with
    | zero => simp [T.sizeL]
    | succ k => simp only [List.take_succ_cons, T.sizeL, List.getElem_cons_succ]; rw [ih k (by simpa using h)]; omega
theorem T.sizeL_take_le (l : List T) (k : Nat) : T.sizeL (l.take k) ≤ T.sizeL l := by
  induction l generalizing k with
  | nil => simp [T.sizeL]
  | cons x l ih => cases k with
    | zero => simp [T.sizeL]
    | succ k => simp only [List.take_succ_cons, T.sizeL]; have := ih k; omega
theorem T.sizeM_take (l : List (ByteArray × T)) (k : Nat) (h : k < l.length) : T.sizeM (l.take (k + 1)) = T.sizeM (l.take k) + l[k].2.size := by
  induction l generalizing k with
  | nil => simp at h
  | cons x l ih =>
    cases k with
    | zero => cases x; simp [T.sizeM, T.sizeP]
    | succ k => simp only [List.take_succ_cons, T.sizeM, List.getElem_cons_succ]; rw [ih k (by simpa using h)]; omega
theorem T.sizeM_take_le (l : List (ByteArray × T)) (k : Nat) : T.sizeM (l.take k) ≤ T.sizeM l := by
  induction l generalizing k with
  | nil => simp [T.sizeM]
  | cons x l ih => cases k with
    | zero => simp [T.sizeM]
    | succ k => simp only [List.take_succ_cons, T.sizeM]; have := ih k; omega
theorem T.depthL_take (l : List T) (k : Nat) (h : k < l.length) : T.depthL (l.take (k + 1)) = max (T.depthL (l.take k)) l[k].depth := by
  induction l generalizing k with
  | nil => simp at h
  | cons x l ih =>
    cases k with
    | zero => simp [T.depthL]
    | succ k => simp only [List.take_succ_cons, T.depthL, List.getElem_cons_succ]; rw [ih k (by simpa using h)]; omega
theorem T.depthL_take_le (l : List T) (k : Nat) : T.depthL (l.take k) ≤ T.depthL l := by
  induction l generalizing k with
  | nil => simp [T.depthL]
  | cons x l ih => cases k with
    | zero => simp [T.depthL]
    | succ k => simp only [List.take_succ_cons, T.depthL]; have := ih k; omega
theorem T.depthM_take (l : List (ByteArray × T)) (k : Nat) (h : k < l.length) : T.depthM (l.take (k + 1)) = max (T.depthM (l.take k)) l[k].2.depth := by
  induction l generalizing k with
  | nil => simp at h
  | cons x l ih =>
    cases k with
    | zero => cases x; simp [T.depthM, T.depthP]
    | succ k => simp only [List.take_succ_cons, T.depthM, List.getElem_cons_succ]; rw [ih k (by simpa using h)]; omega
theorem T.depthM_take_le (l : List (ByteArray × T)) (k : Nat) : T.depthM (l.take k) ≤ T.depthM l := by
  induction l generalizing k with
  | nil => simp [T.depthM]
  | cons x l ih => cases k with
    | zero => simp [T.depthM]
    | succ k => simp only [List.take_succ_cons, T.depthM]; have := ih k; omega

def tcells (t : T) (la : Option Addr) (lc : Nat) (ma : Option Addr) (mc : Nat) : Array Value := #[.int .i64 t.kind, .bool t.bool, .int .i64 t.int, .string t.str, .slice la t.list.length lc, .slice ma t.map.length mc]
theorem run_max64 {P : Program} (ts : Array TypeId) (ty : TypeId) (x y : Int) (w : World) : (Builtin.max_ ts ty #[.int .i64 x, .int .i64 y]).run P w = .ok (.int .i64 (max x y)) w := by
  rw [run_max_int2]
  congr 2
  simp only [gt_iff_lt]
  split <;> omega
theorem depth_le (t : T) : t.depth ≤ t.size := by
  induction t using T.ind' with
  | h t ihl ihm =>
    rw [t.depth_eq, t.size_eq]
    have hl : T.depthL t.list ≤ T.sizeL t.list := by
      generalize t.list = l at ihl
      induction l with
      | nil => simp [T.depthL]
      | cons x l ih =>
        have := ihl x (by simp)
        have := ih (fun y hy => ihl y (by simp [hy]))
        simp only [T.depthL, T.sizeL]; omega
    have hm : T.depthM t.map ≤ T.sizeM t.map := by
      generalize t.map = l at ihm
      induction l with
      | nil => simp [T.depthM]
      | cons x l ih =>
        obtain ⟨k, x⟩ := x
        have := ihm (k, x) (by simp)
        have := ih (fun y hy => ihm y (by simp [hy]))
        simp only [T.depthM, T.sizeM, T.depthP, T.sizeP] at *; omega
    omega

def FoldOk (f : Nat) (m : T → Nat) (t : T) : Prop := ∀ (w : World) (S : Nat → Prop) (v : Value), RepT w S v t → t.size < 4611686018427387904 →
    Calls Tryd.prog f #[v] w fun e w' => e = .returned (.int .i64 (m t : Nat)) ∧ Below w.heap.size w w'

set_option maxHeartbeats 800000 in
theorem rsize (t : T) : FoldOk 27 T.size t := by
  have hmx := @run_max64 Tryd.prog
  induction t using T.ind' with
  | h t ihl ihm =>
  intro w S v h hb
  obtain ⟨la, lc, ma, mc, rfl, hp⟩ := h.inv
  obtain ⟨hk, hn, hs, hl, hm, hlc, hmc, hlx, hmx', hL, hM⟩ := hp
  have HS := Lib.hid t.size_eq
  rw [t.size_eq] at hb
  clear hk hn hs hlc hmc hlx hmx' h
  go_enter Tryd.func27, Tryd.ntmps27
  go_wp2_with fail
  go_loopw [3, 4] (fun u i wr => ∃ q : Nat, q ≤ t.list.length ∧ i = .int .i64 q ∧ u = .int .i64 (1 + T.sizeL (t.list.take q) : Nat) ∧ Below w.heap.size w wr ∧ Blk wr w.heap.size 25 (tcells t la lc ma mc)) (fun _ i _ => t.list.length - (intOf i).toNat)
  case atStart => exact ⟨0, Nat.zero_le _, rfl, by simp [T.sizeL], Below.new _ _, Blk.new _ _ _⟩
  case round =>
    obtain ⟨j, hj, rfl, rfl, hbw, hbl⟩ := hrel
    have b4 : wr.cell? ⟨w.heap.size, 4, none⟩ = some (.slice la t.list.length lc) := hbl.cell 4
    have b5 : wr.cell? ⟨w.heap.size, 5, none⟩ = some (.slice ma t.map.length mc) := hbl.cell 5
    by_cases hlt : j < t.list.length
    · obtain ⟨bl, ol, la', lc', ma', mc', rfl, -, -, ⟨c0, c1, c2, c3, c4, c5⟩, hr⟩ := (hL.keep hbw).at_ hlt
      have hle := T.sizeL_take_le t.list (j + 1)
      have hsz := T.sizeL_take t.list j hlt
      have hle2 : t.list[j].size < 4611686018427387904 := by omega
      have hle3 : 1 + T.sizeL (t.list.take j) + t.list[j].size < 4611686018427387904 := by omega
      have HZ := Lib.hid hsz
      clear hsz
      go_wp2_with (go_at_call 27; refine (ihl _ (List.getElem_mem hlt) _ S _ (hr.keep (by exact Below.refl _ _)) hle2).mono ?_; rintro e w' ⟨rfl, hb'⟩)
      have hb2 := hb'
      go_roundw
      case rel => exact ⟨j + 1, by omega, by go_num, by rw [HZ.out]; go_num, Below.next hbw hb2, hbl.keep hb2⟩
      case measure => simp [intOf]; omega
    · have hj' : j = t.list.length := by omega
      subst hj'
      rw [List.take_length]
      go_wp2_with fail
      go_loopw [3, 5] (fun u i wr => ∃ q : Nat, q ≤ t.map.length ∧ i = .int .i64 q ∧ u = .int .i64 (1 + T.sizeL t.list + T.sizeM (t.map.take q) : Nat) ∧ Below w.heap.size w wr ∧ Blk wr w.heap.size 25 (tcells t la lc ma mc)) (fun _ i _ => t.map.length - (intOf i).toNat)
      case atStart => exact ⟨0, Nat.zero_le _, rfl, by simp [T.sizeM], hbw, hbl⟩
      case round =>
        clear b4 b5 hbw hbl
        obtain ⟨j, hj, rfl, rfl, hbw, hbl⟩ := hrel
        have b5 : wr.cell? ⟨w.heap.size, 5, none⟩ = some (.slice ma t.map.length mc) := hbl.cell 5
        by_cases hlt : j < t.map.length
        · obtain ⟨bl, ol, la', lc', ma', mc', rfl, -, -, -, ⟨c0, c1, c2, c3, c4, c5, c6⟩, hr⟩ := (hM.keep hbw).at_ hlt
          have hle := T.sizeM_take_le t.map (j + 1)
          have hsz := T.sizeM_take t.map j hlt
          have hle2 : t.map[j].2.size < 4611686018427387904 := by omega
          have hle3 : 1 + T.sizeL t.list + T.sizeM (t.map.take j) + t.map[j].2.size < 4611686018427387904 := by omega
          have HZ := Lib.hid hsz
          clear hsz
          go_wp2_with (go_at_call 27; refine (ihm _ (List.getElem_mem hlt) _ S _ (hr.keep (by exact Below.refl _ _)) hle2).mono ?_; rintro e w' ⟨rfl, hb'⟩)
          have hb2 := hb'
          go_roundw
          case rel => exact ⟨j + 1, by omega, by go_num, by rw [HZ.out]; go_num, Below.next hbw hb2, hbl.keep hb2⟩
          case measure => simp [intOf]; omega
        · have hj' : j = t.map.length := by omega
          subst hj'
          rw [List.take_length]
          go_wp2_with fail
          go_ret
          exact ⟨by rw [HS.out]; rfl, hbw⟩

set_option maxHeartbeats 800000 in
theorem rdepth (t : T) : FoldOk 26 T.depth t := by
  have hmx := @run_max64 Tryd.prog
  induction t using T.ind' with
  | h t ihl ihm =>
  intro w S v h hb
  obtain ⟨la, lc, ma, mc, rfl, hp⟩ := h.inv
  obtain ⟨hk, hn, hs, hl, hm, hlc, hmc, hlx, hmx', hL, hM⟩ := hp
  have HS := Lib.hid t.depth_eq
  rw [t.size_eq] at hb
  clear hk hn hs hlc hmc hlx hmx' h
  go_enter Tryd.func26, Tryd.ntmps26
  go_wp2_with fail
  go_loopw [3, 4] (fun u i wr => ∃ q : Nat, q ≤ t.list.length ∧ i = .int .i64 q ∧ u = .int .i64 (T.depthL (t.list.take q) : Nat) ∧ Below w.heap.size w wr ∧ Blk wr w.heap.size 25 (tcells t la lc ma mc)) (fun _ i _ => t.list.length - (intOf i).toNat)
  case atStart => exact ⟨0, Nat.zero_le _, rfl, by simp [T.depthL], Below.new _ _, Blk.new _ _ _⟩
  case round =>
    obtain ⟨j, hj, rfl, rfl, hbw, hbl⟩ := hrel
    have b4 : wr.cell? ⟨w.heap.size, 4, none⟩ = some (.slice la t.list.length lc) := hbl.cell 4
    have b5 : wr.cell? ⟨w.heap.size, 5, none⟩ = some (.slice ma t.map.length mc) := hbl.cell 5
    by_cases hlt : j < t.list.length
    · obtain ⟨bl, ol, la', lc', ma', mc', rfl, -, -, ⟨c0, c1, c2, c3, c4, c5⟩, hr⟩ := (hL.keep hbw).at_ hlt
      have hle := T.sizeL_take_le t.list (j + 1)
      have hsz := T.sizeL_take t.list j hlt
      have hle2 : t.list[j].size < 4611686018427387904 := by omega
      have HZ := Lib.hid (T.depthL_take t.list j hlt)
      have hdl := depth_le t.list[j]
      clear hsz
      by_cases hgt : ((T.depthL (t.list.take j) : Nat) : Int) < (t.list[j].depth : Int)
      · go_wp2_with (go_at_call 26; refine (ihl _ (List.getElem_mem hlt) _ S _ (hr.keep (by exact Below.refl _ _)) hle2).mono ?_; rintro e w' ⟨rfl, hb'⟩)
        have hb2 := hb'
        go_roundw
        case rel => exact ⟨j + 1, by omega, by go_num, by rw [HZ.out]; simp; omega, Below.next hbw hb2, hbl.keep hb2⟩
        case measure => simp [intOf]; omega
      · go_wp2_with (go_at_call 26; refine (ihl _ (List.getElem_mem hlt) _ S _ (hr.keep (by exact Below.refl _ _)) hle2).mono ?_; rintro e w' ⟨rfl, hb'⟩)
        have hb2 := hb'
        go_roundw
        case rel => exact ⟨j + 1, by omega, by go_num, by rw [HZ.out]; simp; omega, Below.next hbw hb2, hbl.keep hb2⟩
        case measure => simp [intOf]; omega
    · have hj' : j = t.list.length := by omega
      subst hj'
      rw [List.take_length]
      go_wp2_with fail
      go_loopw [3, 6] (fun u i wr => ∃ q : Nat, q ≤ t.map.length ∧ i = .int .i64 q ∧ u = .int .i64 (max (T.depthL t.list) (T.depthM (t.map.take q)) : Nat) ∧ Below w.heap.size w wr ∧ Blk wr w.heap.size 25 (tcells t la lc ma mc)) (fun _ i _ => t.map.length - (intOf i).toNat)
      case atStart => exact ⟨0, Nat.zero_le _, rfl, by simp [T.depthM], hbw, hbl⟩
      case round =>
        clear b4 b5 hbw hbl
        obtain ⟨j, hj, rfl, rfl, hbw, hbl⟩ := hrel
        have b5 : wr.cell? ⟨w.heap.size, 5, none⟩ = some (.slice ma t.map.length mc) := hbl.cell 5
        by_cases hlt : j < t.map.length
        · obtain ⟨bl, ol, la', lc', ma', mc', rfl, -, -, -, ⟨c0, c1, c2, c3, c4, c5, c6⟩, hr⟩ := (hM.keep hbw).at_ hlt
          have hle := T.sizeM_take_le t.map (j + 1)
          have hsz := T.sizeM_take t.map j hlt
          have hle2 : t.map[j].2.size < 4611686018427387904 := by omega
          have HZ := Lib.hid (T.depthM_take t.map j hlt)
          have hdl := depth_le t.map[j].2
          clear hsz
          by_cases hgt : ((max (T.depthL t.list) (T.depthM (t.map.take j)) : Nat) : Int) < (t.map[j].2.depth : Int)
          · go_wp2_with (go_at_call 26; refine (ihm _ (List.getElem_mem hlt) _ S _ (hr.keep (by exact Below.refl _ _)) hle2).mono ?_; rintro e w' ⟨rfl, hb'⟩)
            have hb2 := hb'
            go_roundw
            case rel => exact ⟨j + 1, by omega, by go_num, by rw [HZ.out]; simp; omega, Below.next hbw hb2, hbl.keep hb2⟩
            case measure => simp [intOf]; omega
          · go_wp2_with (go_at_call 26; refine (ihm _ (List.getElem_mem hlt) _ S _ (hr.keep (by exact Below.refl _ _)) hle2).mono ?_; rintro e w' ⟨rfl, hb'⟩)
            have hb2 := hb'
            go_roundw
            case rel => exact ⟨j + 1, by omega, by go_num, by rw [HZ.out]; simp; omega, Below.next hbw hb2, hbl.keep hb2⟩
            case measure => simp [intOf]; omega
        · have hj' : j = t.map.length := by omega
          subst hj'
          rw [List.take_length]
          have := depth_le t
          rw [HS.out, t.size_eq] at this
          have hbd : ((max (T.depthL t.list) (T.depthM t.map) : Nat) : Int) < 4611686018427387904 := by omega
          clear this
          go_wp2_with fail
          go_ret
          exact ⟨by rw [HS.out]; simp; omega, hbw⟩
end Go.Proofs.YtgbbojnigicnoaaDoor
