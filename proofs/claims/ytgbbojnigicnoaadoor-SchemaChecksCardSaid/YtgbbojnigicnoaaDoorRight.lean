/- Which values are right: the reference's Check, Light, Right. -/
import Derived.Test.YtgbbojnigicnoaaDoorPartsR
import Derived.Test.YtgbbojnigicnoaaDoorWt
namespace Go.Proofs.YtgbbojnigicnoaaDoor
open Go.RowKit

/-- What is wrong with a value. -/
def T.check (t : T) : Int := if 16 < t.depth then 5 else if 4096 < t.size then 6 else t.parts
def Good (t : T) : Prop := t.wt ≤ 6000 ∧ t.check = 0

theorem size_le_wt (t : T) : t.size ≤ t.wt := by
  induction t using T.ind' with
  | h t ihl ihm =>
    rw [t.wt_eq, t.size_eq]
    have hl : T.sizeL t.list ≤ T.wtL t.list := by
      generalize t.list = l at ihl
      induction l with
      | nil => simp [T.sizeL]
      | cons x l ih =>
        have := ihl x (by simp)
        have := ih (fun y hy => ihl y (by simp [hy]))
        simp only [T.sizeL, T.wtL]; omega
    have hm : T.sizeM t.map ≤ T.wtM t.map := by
      generalize t.map = l at ihm
      induction l with
      | nil => simp [T.sizeM]
      | cons x l ih =>
        obtain ⟨k, x⟩ := x
        have := ihm (k, x) (by simp)
        have := ih (fun y hy => ihm y (by simp [hy]))
        simp only [T.sizeM, T.wtM, T.sizeP, T.wtP] at *; omega
    omega

set_option maxHeartbeats 400000 in
theorem rcheck (t : T) (w : World) (S : Nat → Prop) (v : Value) (h : RepT w S v t) (hz : t.size < 4611686018427387904) :
    Calls Tryd.prog 12 #[v] w fun e w' => e = .returned (.int .i64 t.check) ∧ Below w.heap.size w w' := by
  have H1 := Lib.hid (fun w v h => rdepth t w S v h hz)
  have H2 := Lib.hid (fun w v h => rsize t w S v h hz)
  have H3 := Lib.hid (fun w v h => rparts t w S v h)
  have hd0 : t.depth < 4611686018427387904 := by have := depth_le t; omega
  obtain ⟨la, lc, ma, mc, rfl, hp⟩ := h.inv
  have HR := Lib.hid h
  clear hp h
  by_cases hd : 16 < t.depth
  · have HC := Lib.hid (show t.check = 5 from if_pos hd)
    have hd' : (16 : Int) < (t.depth : Int) := by omega
    clear hd
    go_enter Tryd.func12, Tryd.ntmps12
    go_wp2_with fail
    refine (H1.out _ _ (HR.out.keep (by exact Below.new _ _))).mono ?_
    rintro e w1 ⟨rfl, hb1⟩
    go_wp2_with fail
    go_ret
    exact ⟨by rw [HC.out]; rfl, Below.next (Below.new _ _) hb1⟩
  have hd' : (t.depth : Int) ≤ 16 := by omega
  by_cases hs : 4096 < t.size
  · have HC := Lib.hid (show t.check = 6 by rw [T.check, if_neg hd, if_pos hs])
    have hs' : (4096 : Int) < (t.size : Int) := by omega
    clear hd hs
    go_enter Tryd.func12, Tryd.ntmps12
    go_wp2_with fail
    refine (H1.out _ _ (HR.out.keep (by exact Below.new _ _))).mono ?_
    rintro e w1 ⟨rfl, hb1⟩
    obtain ⟨hc1, -⟩ := bcell hb1
    have HB1 := Lib.hid hb1
    clear hb1
    go_wp2_with fail
    refine (H2.out _ _ (HR.out.keep (by exact Below.next (Below.new _ _) HB1.out))).mono ?_
    rintro e w2 ⟨rfl, hb2⟩
    go_wp2_with fail
    go_ret
    exact ⟨by rw [HC.out]; rfl, Below.next (Below.next (Below.new _ _) HB1.out) hb2⟩
  have HC := Lib.hid (show t.check = t.parts by rw [T.check, if_neg hd, if_neg hs])
  have hs' : (t.size : Int) ≤ 4096 := by omega
  clear hd hs
  go_enter Tryd.func12, Tryd.ntmps12
  go_wp2_with fail
  refine (H1.out _ _ (HR.out.keep (by exact Below.new _ _))).mono ?_
  rintro e w1 ⟨rfl, hb1⟩
  obtain ⟨hc1, -⟩ := bcell hb1
  have HB1 := Lib.hid hb1
  clear hb1
  go_wp2_with fail
  refine (H2.out _ _ (HR.out.keep (by exact Below.next (Below.new _ _) HB1.out))).mono ?_
  rintro e w2 ⟨rfl, hb2⟩
  have hs12 := HB1.out.size
  obtain ⟨hc2, -⟩ := bcell (Below.next HB1.out hb2)
  have HB2 := Lib.hid hb2
  clear hb2 hc1
  go_wp2_with fail
  refine (H3.out _ _ (HR.out.keep (by exact Below.next (Below.next (Below.new _ _) HB1.out) HB2.out))).mono ?_
  rintro e w3 ⟨rfl, hb3⟩
  go_wp2_with fail
  go_ret
  exact ⟨by rw [HC.out]; rfl, Below.next (Below.next (Below.next (Below.new _ _) HB1.out) HB2.out) hb3⟩

def LightPost (w : World) (m : Nat) (e : Ending) (w' : World) : Prop := ∃ b : Bool, e = .returned (.bool b) ∧ (b = true → m ≤ 6000) ∧ Below w.heap.size w w'
theorem light (t : T) (w : World) (S : Nat → Prop) (v : Value) (h : RepT w S v t) : Calls Tryd.prog 11 #[v] w (LightPost w t.wt) := by
  have H1 := Lib.hid (fun w v h => weight_any t w S v 0 h (by omega) (by omega))
  obtain ⟨la, lc, ma, mc, rfl, hp⟩ := h.inv
  have HR := Lib.hid h
  clear hp h
  go_enter Tryd.func11, Tryd.ntmps11
  go_wp2_with fail
  refine (H1.out _ _ (HR.out.keep (by exact Below.new _ _))).mono ?_
  rintro e w1 ⟨n, rfl, h0, h1, h2, hb1⟩
  have H2 := Lib.hid h2
  clear h2
  go_wp2_with fail
  go_ret
  exact ⟨_, rfl, fun hb => by have hb' : n ≤ 6000 := (by simpa using hb); have := H2.out hb'; omega, Below.next (Below.new _ _) hb1⟩

def RightPost (w : World) (l : List T) (e : Ending) (w' : World) : Prop := ∃ b : Bool, e = .returned (.bool b) ∧ (b = true → ∀ t ∈ l, Good t) ∧ Below w.heap.size w w'
set_option maxHeartbeats 400000 in
theorem right (l : List T) (w : World) (S : Nat → Prop) (a : Option Addr) (c : Nat) (h : RepL w S a l) (hl : l.length ≤ 4611686018427387904) : Calls Tryd.prog 4 #[.slice a l.length c] w (RightPost w l) := by
  have hnot : ∀ (x : Bool) (w : World), (Op.unary .not (.bool x)).run Tryd.prog w = .ok (.bool (!x)) w := fun _ _ => rfl
  go_enter Tryd.func4, Tryd.ntmps4
  go_wp2_with fail
  go_loopw [7] (fun i wr => ∃ q : Nat, q ≤ l.length ∧ i = .int .i64 q ∧ Hid (∀ j (hj : j < l.length), j < q → Good l[j]) ∧ Below w.heap.size w wr) (fun i _ => l.length - (intOf i).toNat)
  case atStart => exact ⟨0, Nat.zero_le _, rfl, fun j _ h => by omega, Below.refl _ _⟩
  case round =>
    obtain ⟨j, hj, rfl, hall, hbw⟩ := hrel
    by_cases hlt : j < l.length
    · obtain ⟨bl, ol, la', lc', ma', mc', rfl, -, -, ⟨c0, c1, c2, c3, c4, c5⟩, hr⟩ := (h.keep hbw).at_ hlt
      have HR := Lib.hid hr
      have HALL : Good l[j] → ∀ i (hi : i < l.length), i < j + 1 → Good l[i] := fun hg i hi hj2 => by
        rcases Nat.lt_or_ge i j with h | h
        · exact hall.out i hi h
        · obtain rfl : i = j := by omega
          exact hg
      have HALL := Lib.hid HALL
      generalize l[j] = t at *
      clear hr
      go_wp2_with fail
      refine (light t _ S _ (HR.out.keep (by exact Below.new _ _))).mono ?_
      rintro e w1 ⟨b, rfl, hb, hb1⟩
      have HB := Lib.hid hb
      clear hb
      cases b with
      | false =>
        go_wp2_with fail
        go_ret
        exact ⟨false, rfl, (fun h => by cases h), Below.next hbw (Below.next (Below.new _ _) hb1)⟩
      | true =>
        have hsz : t.size < 4611686018427387904 := by have := HB.out rfl; have := size_le_wt t; omega
        obtain ⟨hc1, -⟩ := bcell hb1
        have HB1 := Lib.hid hb1
        clear hb1
        by_cases hck : t.check = 0
        · have HG := Lib.hid (HALL.out ⟨HB.out rfl, hck⟩)
          have HC := Lib.hid (fun w v h => rcheck t w S v h hsz)
          rw [hck] at HC
          clear hck
          go_wp2_with fail
          refine (HC.out _ _ (HR.out.keep (by exact Below.next (Below.new _ _) HB1.out))).mono ?_
          rintro e w2 ⟨rfl, hb2⟩
          clear hc1
          go_wp2_with fail
          go_roundw
          case rel => exact ⟨j + 1, by omega, by go_num, HG, Below.next hbw (Below.next (Below.next (Below.new _ _) HB1.out) hb2)⟩
          case measure => simp [intOf]; omega
        · have HC := Lib.hid (fun w v h => rcheck t w S v h hsz)
          have hne : (t.check != 0) = true := by rw [bne_iff_ne]; exact hck
          generalize t.check = ck at HC hne
          clear hck
          go_wp2_with fail
          refine (HC.out _ _ (HR.out.keep (by exact Below.next (Below.new _ _) HB1.out))).mono ?_
          rintro e w2 ⟨rfl, hb2⟩
          clear hc1
          go_wp2_with fail
          go_ret
          exact ⟨false, rfl, (fun h => by cases h), Below.next hbw (Below.next (Below.next (Below.new _ _) HB1.out) hb2)⟩
    · have HG : Hid (∀ t ∈ l, Good t) := fun t ht => by
        obtain ⟨i, hi, rfl⟩ := List.getElem_of_mem ht
        exact hall.out i hi (by omega)
      clear hall
      go_wp2_with fail
      go_ret
      exact ⟨true, rfl, fun _ => HG.out, hbw⟩

end Go.Proofs.YtgbbojnigicnoaaDoor
