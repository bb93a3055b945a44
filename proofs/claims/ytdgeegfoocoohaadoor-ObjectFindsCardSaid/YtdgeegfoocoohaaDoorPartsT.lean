/- What is wrong with a value: the program's bare, parts and Check. -/
import Derived.Test.YtdgeegfoocoohaaDoorRight
import Derived.Test.YtdgeegfoocoohaaDoorText
import Derived.BigQuiet
import Derived.Deep.QuietTactic
namespace Go.Proofs.YtdgeegfoocoohaaDoor
open Go.RowKit
attribute [local go_sem ↓] Go.wp_at_zero Go.wp_at_succ

/-- What is had, by kinds. -/
def ownB (b1 o2 o3 o4 o5 : Bool) (c : Nat) : Bool := [false, b1, o2, o3, o4, o5].getD c false
theorem bare_own (t : T) : t.bareB = true ↔ (0 ≤ t.kind ∧ t.kind ≤ 5) ∧ ∀ c : Nat, c < 6 → ownB t.bool (t.int != 0) (!t.str.toList.isEmpty) (decide (0 < t.list.length)) (decide (0 < t.map.length)) c = true → (c : Int) = t.kind := by
  have hl : decide (0 < t.list.length) = !t.list.isEmpty := by cases t.list <;> simp
  have hm : decide (0 < t.map.length) = !t.map.isEmpty := by cases t.map <;> simp
  rw [hl, hm]
  unfold T.bareB
  simp only [Bool.and_eq_true, Bool.or_eq_true, decide_eq_true_eq, Bool.not_eq_true']
  constructor
  · rintro ⟨⟨⟨⟨⟨⟨a, b⟩, p1⟩, p2⟩, p3⟩, p4⟩, p5⟩
    refine ⟨⟨a, b⟩, fun c hc h => ?_⟩
    match c, hc with
    | 0, _ => simp [ownB] at h
    | 1, _ => simp [ownB] at h; rcases p1 with p | p; exact p.symm; rw [p] at h; cases h
    | 2, _ => simp [ownB] at h; rcases p2 with p | p; exact p.symm; exact absurd p h
    | 3, _ => simp [ownB] at h; rcases p3 with p | p; exact p.symm; simp at p; exact absurd p h
    | 4, _ => simp [ownB] at h; rcases p4 with p | p; exact p.symm; simp at p; exact absurd p h
    | 5, _ => simp [ownB] at h; rcases p5 with p | p; exact p.symm; simp at p; exact absurd p h
  · rintro ⟨⟨a, b⟩, h⟩
    refine ⟨⟨⟨⟨⟨⟨a, b⟩, ?_⟩, ?_⟩, ?_⟩, ?_⟩, ?_⟩
    · have := h 1 (by omega)
      cases hb : t.bool with
      | false => exact .inr rfl
      | true => rw [hb] at this; exact .inl (this rfl).symm
    · have := h 2 (by omega)
      by_cases hn : t.int = 0
      · exact .inr hn
      · exact .inl (this (by simp [ownB, hn])).symm
    · have := h 3 (by omega)
      cases hb : t.str.toList.isEmpty with
      | true => exact .inr rfl
      | false => rw [hb] at this; exact .inl (this rfl).symm
    · have := h 4 (by omega)
      cases hb : t.list.isEmpty with
      | true => exact .inr rfl
      | false => rw [hb] at this; exact .inl (this rfl).symm
    · have := h 5 (by omega)
      cases hb : t.map.isEmpty with
      | true => exact .inr rfl
      | false => rw [hb] at this; exact .inl (this rfl).symm

set_option maxRecDepth 100000 in
set_option maxHeartbeats 4000000 in
theorem tbareT (t : T) (v : Value) (w : World) (S : Nat → Prop) (h : RepT w S v t) : Calls Tryd.prog 41 #[v] w fun e w' => e = .returned (.bool t.bareB) ∧ Below w.heap.size w w' := by
  obtain ⟨la, lc, ma, mc, rfl, hp⟩ := h.inv
  obtain ⟨hk, hn, hs, hl, hm, -⟩ := hp
  have HB := Lib.hid (bare_own t)
  clear h
  generalize t.bareB = r at *
  generalize t.kind = k1 at *
  generalize t.bool = b1 at *
  generalize t.int = n1 at *
  generalize t.str = s1 at *
  generalize t.list.length = ll at *
  generalize t.map.length = ml at *
  go_enter Tryd.func41, Tryd.ntmps41
  go_wp2_with fail
  generalize (n1 != 0) = o2 at *
  generalize (!s1.toList.isEmpty) = o3 at *
  generalize decide (0 < ll) = o4 at *
  generalize decide (0 < ml) = o5 at *
  have HNO := Lib.hid (show ∀ c : Nat, c < 6 → ownB b1 o2 o3 o4 o5 c = true → (c : Int) ≠ k1 → r = false from fun c hc h1 h2 => by
    cases hr : r with
    | false => rfl
    | true => exact absurd ((HB.out.1 hr).2 c hc h1) h2)
  have HYES := Lib.hid (show (∀ c : Nat, c < 6 → ownB b1 o2 o3 o4 o5 c = true → (c : Int) = k1) → r = (decide (0 ≤ k1) && decide (k1 ≤ 5)) from fun hh => by
    rw [Bool.eq_iff_iff, HB.out, Bool.and_eq_true, decide_eq_true_eq, decide_eq_true_eq]
    exact ⟨fun h => h.1, fun h => ⟨h, hh⟩⟩)
  have HBX := Lib.hid (show Below w.heap.size w ((w.alloc (.cells #[.int .i64 k1, .bool b1, .int .i64 n1, .string s1, .slice la ll lc, .slice ma ml mc] 33)).alloc (.cells #[.bool false, .bool b1, .bool o2, .bool o3, .bool o4, .bool o5] 80)) from (Below.new _ _).alloc (by simp) _)
  clear HB
  have i0 : ∀ w, (Instr.index 80 (.agg #[.bool false, .bool b1, .bool o2, .bool o3, .bool o4, .bool o5]) (.int .i64 0)).run Tryd.prog w = .ok (.bool false) w := fun _ => by kernel_rfl
  have i1 : ∀ w, (Instr.index 80 (.agg #[.bool false, .bool b1, .bool o2, .bool o3, .bool o4, .bool o5]) (.int .i64 1)).run Tryd.prog w = .ok (.bool b1) w := fun _ => by kernel_rfl
  have i2 : ∀ w, (Instr.index 80 (.agg #[.bool false, .bool b1, .bool o2, .bool o3, .bool o4, .bool o5]) (.int .i64 2)).run Tryd.prog w = .ok (.bool o2) w := fun _ => by kernel_rfl
  have i3 : ∀ w, (Instr.index 80 (.agg #[.bool false, .bool b1, .bool o2, .bool o3, .bool o4, .bool o5]) (.int .i64 3)).run Tryd.prog w = .ok (.bool o3) w := fun _ => by kernel_rfl
  have i4 : ∀ w, (Instr.index 80 (.agg #[.bool false, .bool b1, .bool o2, .bool o3, .bool o4, .bool o5]) (.int .i64 4)).run Tryd.prog w = .ok (.bool o4) w := fun _ => by kernel_rfl
  have i5 : ∀ w, (Instr.index 80 (.agg #[.bool false, .bool b1, .bool o2, .bool o3, .bool o4, .bool o5]) (.int .i64 5)).run Tryd.prog w = .ok (.bool o5) w := fun _ => by kernel_rfl
  go_loop [24] (fun i => ∃ q : Nat, q ≤ 6 ∧ i = .int .i64 q ∧ Hid (∀ c : Nat, c < q → ownB b1 o2 o3 o4 o5 c = true → (c : Int) = k1)) (fun i => 6 - (intOf i).toNat)
  case atStart => exact ⟨0, by omega, rfl, fun c h => by omega⟩
  case round =>
    obtain ⟨q, hq, rfl, hall⟩ := hrel
    match q, hq with
    | 0, _ =>
        have HN := Lib.hid (show ∀ c : Nat, c < 1 → ownB b1 o2 o3 o4 o5 c = true → (c : Int) = k1 from fun c hc h => by
          rcases Nat.lt_or_ge c 0 with h1 | h1
          · exact hall.out c h1 h
          · obtain rfl : c = 0 := by omega
            simp [ownB] at h)
        clear hall
        go_wp2_with fail
        go_round
        case rel => exact ⟨1, by omega, rfl, HN⟩
        case measure => simp [intOf]
    | 1, _ =>
      cases hx : b1
      · have HN := Lib.hid (show ∀ c : Nat, c < 2 → ownB b1 o2 o3 o4 o5 c = true → (c : Int) = k1 from fun c hc h => by
          rcases Nat.lt_or_ge c 1 with h1 | h1
          · exact hall.out c h1 h
          · obtain rfl : c = 1 := by omega
            rw [hx] at h; simp [ownB] at h)
        subst hx
        clear hall
        go_wp2_with fail
        go_round
        case rel => exact ⟨2, by omega, rfl, HN⟩
        case measure => simp [intOf]
      · by_cases hk5 : k1 = 1
        · have HN := Lib.hid (show ∀ c : Nat, c < 2 → ownB b1 o2 o3 o4 o5 c = true → (c : Int) = k1 from fun c hc h => by
            rcases Nat.lt_or_ge c 1 with h1 | h1
            · exact hall.out c h1 h
            · obtain rfl : c = 1 := by omega
              exact hk5.symm)
          have gk : (((1 : Nat) : Int) != k1) = false := by rw [hk5]; rfl
          have gk2 : ((1 : Int) != k1) = false := by rw [hk5]; rfl
          subst hx
          clear hall hk5
          go_wp2_with fail
          go_round
          case rel => exact ⟨2, by omega, rfl, HN⟩
          case measure => simp [intOf]
        · have HR := Lib.hid (HNO.out 1 (by omega) (by rw [hx]; rfl) (fun e => hk5 (by rw [← e]; rfl)))
          have gk : (((1 : Nat) : Int) != k1) = true := bne_iff_ne.2 (fun e => hk5 (by rw [← e]; rfl))
          have gk2 : ((1 : Int) != k1) = true := bne_iff_ne.2 (fun e => hk5 (by rw [← e]))
          subst hx
          clear hall hk5
          go_wp2_with fail
          go_ret
          exact ⟨by rw [HR.out]; rfl, HBX.out⟩
    | 2, _ =>
      cases hx : o2
      · have HN := Lib.hid (show ∀ c : Nat, c < 3 → ownB b1 o2 o3 o4 o5 c = true → (c : Int) = k1 from fun c hc h => by
          rcases Nat.lt_or_ge c 2 with h1 | h1
          · exact hall.out c h1 h
          · obtain rfl : c = 2 := by omega
            rw [hx] at h; simp [ownB] at h)
        subst hx
        clear hall
        go_wp2_with fail
        go_round
        case rel => exact ⟨3, by omega, rfl, HN⟩
        case measure => simp [intOf]
      · by_cases hk5 : k1 = 2
        · have HN := Lib.hid (show ∀ c : Nat, c < 3 → ownB b1 o2 o3 o4 o5 c = true → (c : Int) = k1 from fun c hc h => by
            rcases Nat.lt_or_ge c 2 with h1 | h1
            · exact hall.out c h1 h
            · obtain rfl : c = 2 := by omega
              exact hk5.symm)
          have gk : (((2 : Nat) : Int) != k1) = false := by rw [hk5]; rfl
          have gk2 : ((2 : Int) != k1) = false := by rw [hk5]; rfl
          subst hx
          clear hall hk5
          go_wp2_with fail
          go_round
          case rel => exact ⟨3, by omega, rfl, HN⟩
          case measure => simp [intOf]
        · have HR := Lib.hid (HNO.out 2 (by omega) (by rw [hx]; rfl) (fun e => hk5 (by rw [← e]; rfl)))
          have gk : (((2 : Nat) : Int) != k1) = true := bne_iff_ne.2 (fun e => hk5 (by rw [← e]; rfl))
          have gk2 : ((2 : Int) != k1) = true := bne_iff_ne.2 (fun e => hk5 (by rw [← e]))
          subst hx
          clear hall hk5
          go_wp2_with fail
          go_ret
          exact ⟨by rw [HR.out]; rfl, HBX.out⟩
    | 3, _ =>
      cases hx : o3
      · have HN := Lib.hid (show ∀ c : Nat, c < 4 → ownB b1 o2 o3 o4 o5 c = true → (c : Int) = k1 from fun c hc h => by
          rcases Nat.lt_or_ge c 3 with h1 | h1
          · exact hall.out c h1 h
          · obtain rfl : c = 3 := by omega
            rw [hx] at h; simp [ownB] at h)
        subst hx
        clear hall
        go_wp2_with fail
        go_round
        case rel => exact ⟨4, by omega, rfl, HN⟩
        case measure => simp [intOf]
      · by_cases hk5 : k1 = 3
        · have HN := Lib.hid (show ∀ c : Nat, c < 4 → ownB b1 o2 o3 o4 o5 c = true → (c : Int) = k1 from fun c hc h => by
            rcases Nat.lt_or_ge c 3 with h1 | h1
            · exact hall.out c h1 h
            · obtain rfl : c = 3 := by omega
              exact hk5.symm)
          have gk : (((3 : Nat) : Int) != k1) = false := by rw [hk5]; rfl
          have gk2 : ((3 : Int) != k1) = false := by rw [hk5]; rfl
          subst hx
          clear hall hk5
          go_wp2_with fail
          go_round
          case rel => exact ⟨4, by omega, rfl, HN⟩
          case measure => simp [intOf]
        · have HR := Lib.hid (HNO.out 3 (by omega) (by rw [hx]; rfl) (fun e => hk5 (by rw [← e]; rfl)))
          have gk : (((3 : Nat) : Int) != k1) = true := bne_iff_ne.2 (fun e => hk5 (by rw [← e]; rfl))
          have gk2 : ((3 : Int) != k1) = true := bne_iff_ne.2 (fun e => hk5 (by rw [← e]))
          subst hx
          clear hall hk5
          go_wp2_with fail
          go_ret
          exact ⟨by rw [HR.out]; rfl, HBX.out⟩
    | 4, _ =>
      cases hx : o4
      · have HN := Lib.hid (show ∀ c : Nat, c < 5 → ownB b1 o2 o3 o4 o5 c = true → (c : Int) = k1 from fun c hc h => by
          rcases Nat.lt_or_ge c 4 with h1 | h1
          · exact hall.out c h1 h
          · obtain rfl : c = 4 := by omega
            rw [hx] at h; simp [ownB] at h)
        subst hx
        clear hall
        go_wp2_with fail
        go_round
        case rel => exact ⟨5, by omega, rfl, HN⟩
        case measure => simp [intOf]
      · by_cases hk5 : k1 = 4
        · have HN := Lib.hid (show ∀ c : Nat, c < 5 → ownB b1 o2 o3 o4 o5 c = true → (c : Int) = k1 from fun c hc h => by
            rcases Nat.lt_or_ge c 4 with h1 | h1
            · exact hall.out c h1 h
            · obtain rfl : c = 4 := by omega
              exact hk5.symm)
          have gk : (((4 : Nat) : Int) != k1) = false := by rw [hk5]; rfl
          have gk2 : ((4 : Int) != k1) = false := by rw [hk5]; rfl
          subst hx
          clear hall hk5
          go_wp2_with fail
          go_round
          case rel => exact ⟨5, by omega, rfl, HN⟩
          case measure => simp [intOf]
        · have HR := Lib.hid (HNO.out 4 (by omega) (by rw [hx]; rfl) (fun e => hk5 (by rw [← e]; rfl)))
          have gk : (((4 : Nat) : Int) != k1) = true := bne_iff_ne.2 (fun e => hk5 (by rw [← e]; rfl))
          have gk2 : ((4 : Int) != k1) = true := bne_iff_ne.2 (fun e => hk5 (by rw [← e]))
          subst hx
          clear hall hk5
          go_wp2_with fail
          go_ret
          exact ⟨by rw [HR.out]; rfl, HBX.out⟩
    | 5, _ =>
      cases hx : o5
      · have HN := Lib.hid (show ∀ c : Nat, c < 6 → ownB b1 o2 o3 o4 o5 c = true → (c : Int) = k1 from fun c hc h => by
          rcases Nat.lt_or_ge c 5 with h1 | h1
          · exact hall.out c h1 h
          · obtain rfl : c = 5 := by omega
            rw [hx] at h; simp [ownB] at h)
        subst hx
        clear hall
        go_wp2_with fail
        go_round
        case rel => exact ⟨6, by omega, rfl, HN⟩
        case measure => simp [intOf]
      · by_cases hk5 : k1 = 5
        · have HN := Lib.hid (show ∀ c : Nat, c < 6 → ownB b1 o2 o3 o4 o5 c = true → (c : Int) = k1 from fun c hc h => by
            rcases Nat.lt_or_ge c 5 with h1 | h1
            · exact hall.out c h1 h
            · obtain rfl : c = 5 := by omega
              exact hk5.symm)
          have gk : (((5 : Nat) : Int) != k1) = false := by rw [hk5]; rfl
          have gk2 : ((5 : Int) != k1) = false := by rw [hk5]; rfl
          subst hx
          clear hall hk5
          go_wp2_with fail
          go_round
          case rel => exact ⟨6, by omega, rfl, HN⟩
          case measure => simp [intOf]
        · have HR := Lib.hid (HNO.out 5 (by omega) (by rw [hx]; rfl) (fun e => hk5 (by rw [← e]; rfl)))
          have gk : (((5 : Nat) : Int) != k1) = true := bne_iff_ne.2 (fun e => hk5 (by rw [← e]; rfl))
          have gk2 : ((5 : Int) != k1) = true := bne_iff_ne.2 (fun e => hk5 (by rw [← e]))
          subst hx
          clear hall hk5
          go_wp2_with fail
          go_ret
          exact ⟨by rw [HR.out]; rfl, HBX.out⟩
    | 6, _ =>
      have HR := Lib.hid (HYES.out (fun c hc => hall.out c hc))
      clear hall
      by_cases g0 : 0 ≤ k1
      · go_wp2_with fail
        go_ret
        exact ⟨by rw [HR.out, decide_eq_true g0]; rfl, HBX.out⟩
      · go_wp2_with fail
        go_ret
        exact ⟨by rw [HR.out, decide_eq_false (show ¬ 0 ≤ k1 by omega)]; rfl, HBX.out⟩

def PartsOkT (t : T) : Prop := ∀ (w : World) (S : Nat → Prop) (v : Value), RepT w S v t → Calls Tryd.prog 32 #[v] w fun e w' => e = .returned (.int .i64 t.parts) ∧ Below w.heap.size w w'

set_option maxRecDepth 100000 in
set_option maxHeartbeats 8000000 in
theorem tparts (t : T) : PartsOkT t := by
  have hnot : ∀ (x : Bool) (w : World), (Op.unary .not (.bool x)).run Tryd.prog w = .ok (.bool (!x)) w := fun _ _ => rfl
  induction t using T.ind' with
  | h t ihl ihm =>
  intro w S v h
  have HBR := Lib.hid (fun w v h => tbareT t v w S h)
  obtain ⟨la, lc, ma, mc, rfl, hp⟩ := h.inv
  obtain ⟨-, -, hs, hl, hm, -, -, -, -, hL, hM⟩ := hp
  have HTX := Lib.hid (fun w => ttext t.str w hs)
  have HR := Lib.hid h
  clear h hs
  go_enter Tryd.func32, Tryd.ntmps32
  go_wp2_with fail
  refine (HBR.out _ _ (HR.out.keep (by exact Below.new _ _))).mono ?_
  rintro e W0 ⟨rfl, hb0⟩
  have hbl := (Blk.new w 33 #[.int .i64 t.kind, .bool t.bool, .int .i64 t.int, .string t.str, .slice la t.list.length lc, .slice ma t.map.length mc]).keep hb0
  have hbw := Below.next (Below.new w (.cells #[.int .i64 t.kind, .bool t.bool, .int .i64 t.int, .string t.str, .slice la t.list.length lc, .slice ma t.map.length mc] 33)) hb0
  have HBL := Lib.hid hbl
  have HBW := Lib.hid hbw
  have hk0 := hbl.cell
  clear hb0 hbl hbw
  by_cases hbare : t.bareB = false
  · have HP := Lib.hid (parts_bare hbare)
    rw [hbare]
    clear hbare
    go_wp2_with fail
    go_ret
    exact ⟨by rw [HP.out]; rfl, HBW.out⟩
  have hbare : t.bareB = true := by simpa using hbare
  rw [hbare]
  have HB := Lib.hid hbare
  clear hbare
  by_cases htx : textB t.str = false
  · have HP := Lib.hid (parts_text HB.out htx)
    rw [htx] at HTX
    clear htx
    go_wp2_with fail
    refine (HTX.out _).mono ?_
    rintro e w' ⟨rfl, rfl⟩
    go_wp2_with fail
    go_ret
    exact ⟨by rw [HP.out]; rfl, HBW.out⟩
  have htx : textB t.str = true := by simpa using htx
  rw [htx] at HTX
  have HT := Lib.hid htx
  clear htx
  go_wp2_with fail
  refine (HTX.out _).mono ?_
  rintro e w' ⟨rfl, rfl⟩
  go_wp2_with fail
  go_loopw [21] (fun i wr => ∃ q : Nat, q ≤ t.list.length ∧ i = .int .i64 q ∧ Hid (∀ j (hj : j < t.list.length), j < q → t.list[j].parts = 0) ∧ Below w.heap.size w wr ∧ Blk wr w.heap.size 33 #[.int .i64 t.kind, .bool t.bool, .int .i64 t.int, .string t.str, .slice la t.list.length lc, .slice ma t.map.length mc]) (fun i _ => t.list.length - (intOf i).toNat)
  case atStart => exact ⟨0, Nat.zero_le _, rfl, fun j _ h => by omega, HBW.out, HBL.out⟩
  case round =>
    clear hk0
    obtain ⟨j, hj, rfl, hall, hbw, hbl⟩ := hrel
    have hk0 := hbl.cell
    have hl0 := hbl.lt
    by_cases hlt : j < t.list.length
    · obtain ⟨bl, ol, la', lc', ma', mc', rfl, -, -, ⟨c0, c1, c2, c3, c4, c5⟩, hr⟩ := (hL.keep hbw).at_ hlt
      have HIH := Lib.hid (fun w v h => ihl _ (List.getElem_mem hlt) w S v h)
      have HRE := Lib.hid hr
      have HKP := Lib.hid (fun (o : Obj) (w' : World) (hb' : Below (wr.alloc o).heap.size (wr.alloc o) w') => hbl.keep (Below.next (Below.new wr o) hb'))
      have HKB := Lib.hid (fun (o : Obj) (w' : World) (hb' : Below (wr.alloc o).heap.size (wr.alloc o) w') => Below.next hbw (Below.next (Below.new wr o) hb'))
      by_cases he : t.list[j].parts = 0
      · have HA := Lib.hid (show ∀ i (hi : i < t.list.length), i < j + 1 → t.list[i].parts = 0 from fun i hi hj2 => by
          rcases Nat.lt_or_ge i j with h | h
          · exact hall.out i hi h
          · obtain rfl : i = j := by omega
            exact he)
        rw [he] at HIH
        clear he hr hall
        generalize t.list[j] = x at *
        go_wp2_with fail
        refine (HIH.out _ _ (HRE.out.keep (by exact Below.new _ _))).mono ?_
        rintro e w' ⟨rfl, hb'⟩
        go_wp2_with fail
        go_roundw
        case rel => first | exact ⟨j + 1, by omega, by go_num, HA, HKB.out _ _ hb', HKP.out _ _ hb'⟩ | ((repeat apply Exists.intro); exact ⟨⟨j + 1, by omega, by go_num, HA, HKB.out _ _ hb', HKP.out _ _ hb'⟩, rfl⟩)
        case measure => simp [intOf]; omega
      · have HP := Lib.hid ((parts_list HB.out HT.out (by rw [partsL_stop hall.out hlt he]; exact he)).trans (partsL_stop hall.out hlt he))
        have hne : (t.list[j].parts != 0) = true := by rw [bne_iff_ne]; exact he
        generalize t.list[j].parts = pe at HIH HP hne
        clear he hr hall
        generalize t.list[j] = x at *
        go_wp2_with fail
        refine (HIH.out _ _ (HRE.out.keep (by exact Below.new _ _))).mono ?_
        rintro e w' ⟨rfl, hb'⟩
        go_wp2_with fail
        go_ret
        exact ⟨by rw [HP.out]; rfl, HKB.out _ _ hb'⟩
    · have HP := Lib.hid (parts_map HB.out HT.out (partsL_all fun i hi => hall.out i hi (by omega)))
      clear hall
      go_wp2_with fail
      go_loopw [34] (fun i wr => ∃ q : Nat, q ≤ t.map.length ∧ i = .int .i64 q ∧ Hid (∀ j, j < q → okAt t.map j) ∧ Below w.heap.size w wr ∧ Blk wr w.heap.size 33 #[.int .i64 t.kind, .bool t.bool, .int .i64 t.int, .string t.str, .slice la t.list.length lc, .slice ma t.map.length mc]) (fun i _ => t.map.length - (intOf i).toNat)
      case atStart => exact ⟨0, Nat.zero_le _, rfl, fun j h => by omega, hbw, hbl⟩
      case round =>
        clear hbw hbl hk0 hl0 hlt hj
        obtain ⟨q, hq, rfl, hall, hbw, hbl⟩ := hrel
        have hk0 := hbl.cell
        have hl0 := hbl.lt
        by_cases hlt : q < t.map.length
        · have hMk := hM.keep hbw
          obtain ⟨bl, ol, la', lc', ma', mc', hma, -, hbb, hkz, ⟨c0, c1, c2, c3, c4, c5, c6⟩, hr⟩ := hMk.at_ hlt
          subst hma
          have HK := Lib.hid (fun w => tkey t.map[q].1 w hkz)
          have HREP := Lib.hid hr
          have HIH := Lib.hid (fun w v h => ihm _ (List.getElem_mem hlt) w S v h)
          have HKP := Lib.hid (fun (w' : World) (hb' : Below wr.heap.size wr w') => hbl.keep hb')
          have HKB := Lib.hid (fun (w' : World) (hb' : Below wr.heap.size wr w') => Below.next hbw hb')
          by_cases hkey : keyB t.map[q].1 = false
          · have HP3 := Lib.hid (HP.out.trans (partsM_key hall.out hlt hkey))
            rw [hkey] at HK
            clear hkey hall hr
            generalize t.map[q] = p at *
            go_wp2_with fail
            refine (HK.out _).mono ?_
            rintro e w' ⟨rfl, rfl⟩
            go_wp2_with fail
            go_ret
            exact ⟨by rw [HP3.out]; rfl, HKB.out _ (Below.new _ _)⟩
          have hkey : keyB t.map[q].1 = true := by simpa using hkey
          have HKY := Lib.hid hkey
          rw [hkey] at HK
          clear hkey hr
          by_cases h0 : 0 < q
          · obtain ⟨p, rfl⟩ : ∃ p, q = p + 1 := ⟨q - 1, by omega⟩
            obtain ⟨bl2, ol2, la2, lc2, ma2, mc2, hma2, -, hbb2, -, ⟨d0, -⟩, -⟩ := hMk.at_ (show p < t.map.length by omega)
            injection hma2 with hma2
            injection hma2 with e1 e2
            subst e1 e2
            have hip1 : (0 : Int) ≤ (p : Int) := by omega
            have hip2 : (p : Int) + 1 < (t.map.length : Int) := by omega
            have hip3 : (p : Int) < (t.map.length : Int) := by omega
            have ew : IntKind.i64.wrap ((p : Int) + 1 - 1) = (p : Int) := by rw [wrap_fit (by omega) (by omega)]; omega
            go_wp2_with fail
            refine (HK.out _).mono ?_
            rintro e w' ⟨rfl, rfl⟩
            by_cases hl : klt t.map[p].1 t.map[p + 1].1 = true
            · have HL := Lib.hid hl
              have g1 : Op.bytesLess t.map[p].1.toList t.map[p + 1].1.toList = true := hl
              clear hl
              go_wp2_with fail
              go_quiet (fail)
              clear g1 ew
              by_cases he : t.map[(p + 1)].2.parts = 0
              · have HA := Lib.hid (show ∀ j, j < (p + 1) + 1 → okAt t.map j from fun j hj2 => by
                  rcases Nat.lt_or_ge j ((p + 1)) with h | h
                  · exact hall.out j h
                  · obtain rfl : j = (p + 1) := by omega
                    exact fun _ => ⟨HKY.out, (fun _ => HL.out), he⟩)
                rw [he] at HIH
                clear he
                go_wp2_with fail
                refine (HIH.out _ _ (HREP.out.keep (by exact Below.drewN (Below.new _ _) _))).mono ?_
                rintro e w' ⟨rfl, hb'⟩
                have hbt := Below.next (Below.drewN (Below.new _ _) _) hb'
                go_wp2_with fail
                go_roundw
                case rel => first | exact ⟨(p + 1) + 1, by omega, by go_num, HA, HKB.out _ hbt, HKP.out _ hbt⟩ | ((repeat apply Exists.intro); exact ⟨⟨(p + 1) + 1, by omega, by go_num, HA, HKB.out _ hbt, HKP.out _ hbt⟩, rfl⟩)
                case measure => simp [intOf]; omega
              · have HPV := Lib.hid (HP.out.trans (partsM_val hall.out hlt HKY.out (fun _ => HL.out) he))
                have hne : (t.map[(p + 1)].2.parts != 0) = true := by rw [bne_iff_ne]; exact he
                generalize t.map[(p + 1)].2.parts = pe at HIH HPV hne
                clear he
                go_wp2_with fail
                refine (HIH.out _ _ (HREP.out.keep (by exact Below.drewN (Below.new _ _) _))).mono ?_
                rintro e w' ⟨rfl, hb'⟩
                have hbt := Below.next (Below.drewN (Below.new _ _) _) hb'
                go_wp2_with fail
                go_ret
                exact ⟨by rw [HPV.out]; rfl, HKB.out _ hbt⟩
            · have HP3 := Lib.hid (HP.out.trans (partsM_twice hall.out hlt HKY.out h0 (by simpa using hl)))
              have g1 : Op.bytesLess t.map[p].1.toList t.map[p + 1].1.toList = false := by simpa [klt] using hl
              clear hl
              go_wp2_with fail
              go_quiet (fail)
              go_wp2_with fail
              go_ret
              exact ⟨by rw [HP3.out]; rfl, HKB.out _ (Below.drewN (Below.new _ _) _)⟩
          · have hg0 : decide ((0 : Int) < (q : Int)) = false := decide_eq_false (by omega)
            go_wp2_with fail
            refine (HK.out _).mono ?_
            rintro e w' ⟨rfl, rfl⟩
            go_wp2_with fail
            go_quiet (fail)
            by_cases he : t.map[q].2.parts = 0
            · have HA := Lib.hid (show ∀ j, j < q + 1 → okAt t.map j from fun j hj2 => by
                obtain rfl : j = q := by omega
                exact fun _ => ⟨HKY.out, (fun h => absurd h h0), he⟩)
              rw [he] at HIH
              clear he
              go_wp2_with fail
              refine (HIH.out _ _ (HREP.out.keep (by exact Below.drewN (Below.new _ _) _))).mono ?_
              rintro e w' ⟨rfl, hb'⟩
              have hbt := Below.next (Below.drewN (Below.new _ _) _) hb'
              go_wp2_with fail
              go_roundw
              case rel => first | exact ⟨q + 1, by omega, by go_num, HA, HKB.out _ hbt, HKP.out _ hbt⟩ | ((repeat apply Exists.intro); exact ⟨⟨q + 1, by omega, by go_num, HA, HKB.out _ hbt, HKP.out _ hbt⟩, rfl⟩)
              case measure => simp [intOf]; omega
            · have HPV := Lib.hid (HP.out.trans (partsM_val hall.out hlt HKY.out (fun h => absurd h h0) he))
              have hne : (t.map[q].2.parts != 0) = true := by rw [bne_iff_ne]; exact he
              generalize t.map[q].2.parts = pe at HIH HPV hne
              clear he
              go_wp2_with fail
              refine (HIH.out _ _ (HREP.out.keep (by exact Below.drewN (Below.new _ _) _))).mono ?_
              rintro e w' ⟨rfl, hb'⟩
              have hbt := Below.next (Below.drewN (Below.new _ _) _) hb'
              go_wp2_with fail
              go_ret
              exact ⟨by rw [HPV.out]; rfl, HKB.out _ hbt⟩
        · have HP3 := Lib.hid (HP.out.trans (partsM_all (fun j hj => hall.out j (by omega))))
          clear hall
          go_wp2_with fail
          go_ret
          exact ⟨by rw [HP3.out]; rfl, hbw⟩

set_option maxHeartbeats 1000000 in
theorem tcheck (t : T) (w : World) (S : Nat → Prop) (v : Value) (h : RepT w S v t) (hz : t.size < 4611686018427387904) :
    Calls Tryd.prog 18 #[v] w fun e w' => e = .returned (.int .i64 t.check) ∧ Below w.heap.size w w' := by
  have H1 := Lib.hid (fun w v h => tdepth t w S v h hz)
  have H2 := Lib.hid (fun w v h => tsize t w S v h hz)
  have H3 := Lib.hid (fun w v h => tparts t w S v h)
  have hd0 : t.depth < 4611686018427387904 := by have := depth_le t; omega
  obtain ⟨la, lc, ma, mc, rfl, hp⟩ := h.inv
  have HR := Lib.hid h
  clear hp h
  by_cases hd : 16 < t.depth
  · have HC := Lib.hid (show t.check = 5 from if_pos hd)
    have hd' : (16 : Int) < (t.depth : Int) := by omega
    clear hd
    go_enter Tryd.func18, Tryd.ntmps18
    go_wp2_with fail
    refine (H1.out _ _ (HR.out.keep (by exact Below.new _ _))).mono ?_
    rintro e w1 ⟨rfl, hb1⟩
    go_wp2_with fail
    go_ret
    exact ⟨by rw [HC.out]; rfl, Below.next (Below.new _ _) hb1⟩
  have hd' : (t.depth : Int) ≤ 16 := by omega
  by_cases hs : 4096 < t.size
  · have HC := Lib.hid (show t.check = 6 by rw [T.check, if_neg hd, if_pos hs])
    have hs' : (4096 : Int) < (t.size : Int) := by omega
    clear hd hs
    go_enter Tryd.func18, Tryd.ntmps18
    go_wp2_with fail
    refine (H1.out _ _ (HR.out.keep (by exact Below.new _ _))).mono ?_
    rintro e w1 ⟨rfl, hb1⟩
    obtain ⟨hc1, -⟩ := bcell hb1
    have HB1 := Lib.hid hb1
    clear hb1
    go_wp2_with fail
    refine (H2.out _ _ (HR.out.keep (by exact Below.next (Below.new _ _) HB1.out))).mono ?_
    rintro e w2 ⟨rfl, hb2⟩
    go_wp2_with fail
    go_ret
    exact ⟨by rw [HC.out]; rfl, Below.next (Below.next (Below.new _ _) HB1.out) hb2⟩
  have HC := Lib.hid (show t.check = t.parts by rw [T.check, if_neg hd, if_neg hs])
  have hs' : (t.size : Int) ≤ 4096 := by omega
  clear hd hs
  go_enter Tryd.func18, Tryd.ntmps18
  go_wp2_with fail
  refine (H1.out _ _ (HR.out.keep (by exact Below.new _ _))).mono ?_
  rintro e w1 ⟨rfl, hb1⟩
  obtain ⟨hc1, -⟩ := bcell hb1
  have HB1 := Lib.hid hb1
  clear hb1
  go_wp2_with fail
  refine (H2.out _ _ (HR.out.keep (by exact Below.next (Below.new _ _) HB1.out))).mono ?_
  rintro e w2 ⟨rfl, hb2⟩
  have hs12 := HB1.out.size
  obtain ⟨hc2, -⟩ := bcell (Below.next HB1.out hb2)
  have HB2 := Lib.hid hb2
  clear hb2 hc1
  go_wp2_with fail
  refine (H3.out _ _ (HR.out.keep (by exact Below.next (Below.next (Below.new _ _) HB1.out) HB2.out))).mono ?_
  rintro e w3 ⟨rfl, hb3⟩
  go_wp2_with fail
  go_ret
  exact ⟨by rw [HC.out]; rfl, Below.next (Below.next (Below.next (Below.new _ _) HB1.out) HB2.out) hb3⟩

end Go.Proofs.YtdgeegfoocoohaaDoor
