/- tree.Put: a map with a value under a key. -/
import Derived.Test.YtdgeegfoocoohaaDoorGen
import Derived.Test.YtdgeegfoocoohaaDoorPure
namespace Go.Proofs.YtdgeegfoocoohaaDoor
open Go.RowKit Go.Lib
attribute [local go_sem ↓] Go.wp_at_zero Go.wp_at_succ

def OwnPost {α : Type} (E : Elt α) (w : World) (l : List α) (e : Ending) (w' : World) : Prop :=
  ∃ A c, e = .returned (.slice A l.length c) ∧ OwnE E w' w.heap.size (fun b => b < w.heap.size) A c l ∧ Below w.heap.size w w'
theorem clone_pairs (m : List (ByteArray × T)) (a : Option Addr) (c : Nat) (w : World) (S : Nat → Prop) (h : RepM w S a m) (hm : m.length * 104 ≤ 140737488355328) :
    Calls Tryd.prog 29 #[.slice a m.length c] w (OwnPost eltP w m) := by
  obtain ⟨xs, hxl, hxs, hx1, hxr⟩ := (h.mono (w' := w) (S' := fun b => b < w.heap.size) (fun _ _ h => h) (fun _ _ _ _ => rfl)).cells
  refine (sclone_p a m.length c xs w hxs hxl hx1 hm).mono ?_
  rintro e w' ⟨v, rfl, hcp⟩
  obtain ⟨A, c', rfl, h1, h2⟩ := own_copied (E := eltP) hcp hxl hx1 (fun i hi => by
    obtain ⟨r, e, hz, hr⟩ := hxr i hi
    exact ⟨r, e, hz, hr⟩)
  exact ⟨A, c', rfl, h1, h2⟩

theorem put_append {w wc w1 wa : World} {A : Option Addr} {c g : Nat} {m : List (ByteArray × T)} {key : ByteArray} {x : T} {c0 c1 c2 c3 c4 c5 : Value} {S : Nat → Prop}
    (hown : OwnE eltP w1 wc.heap.size (fun b => b < wc.heap.size) A c m) (hb1 : Below wc.heap.size wc w1) (hwa : Below w1.heap.size w1 wa) (hbox : Blk wa g 40 #[.string key, c0, c1, c2, c3, c4, c5])
    (hg : g < wc.heap.size ∨ w1.heap.size ≤ g) (hw : Below w.heap.size w wc) (hx : RepT w S (.agg #[c0, c1, c2, c3, c4, c5]) x) (hk : key.size ≤ 140737488351232) (hbig : (m.length + 1) * 104 ≤ 140737488355328) :
    ∃ (l : List (ByteArray × T)) (A' : Option Addr) (c' : Nat) (w3 : World), Hid (l = m ++ [(key, x)]) ∧
      (Builtin.append_ #[31, 31] 31 #[.slice A m.length c, .slice (some ⟨g, 0, none⟩) 1 1]).run Tryd.prog wa = .ok (.slice A' l.length c') w3 ∧ RepM w3 (fun _ => True) A' l ∧ Below wc.heap.size wc w3 := by
  have hn := hown.ne hg
  have hsz := hb1.size
  have hsz2 := hwa.size
  have hbx : Below wc.heap.size wc wa := hb1.trans (hwa.mono hsz)
  obtain ⟨A', c', w3, hr, ho, hgr⟩ := own_append (E := eltP) (l2 := [(key, x)]) (es := [.string key, c0, c1, c2, c3, c4, c5]) (ad := ⟨g, 0, none⟩) (cc := 1) (ty := 31) (t := 31) rfl (hown.keep hwa) (by show (m.length + 1) * 104 ≤ _; exact hbig) (by simp; unfold maxLen; omega) (by omega) (by rfl)
    (fun j u hu => by rw [add_lit, Nat.zero_add, hbox.cell]; simpa using hu)
    (fun i hi => by
      obtain rfl : i = 0 := by simpa using hi
      refine ⟨[c0, c1, c2, c3, c4, c5], rfl, hk, hx.mono (fun b _ hlt => ⟨Nat.lt_of_lt_of_le hlt hw.size, fun e => ?_⟩) (fun b o _ hlt => (hbx.cell (p := ⟨b, o, none⟩) (Nat.lt_of_lt_of_le hlt hw.size)).trans (hw.cell hlt))⟩
      have h1 := (hown.own b e).1
      have h2 := Nat.lt_of_lt_of_le hlt hw.size
      omega)
  refine ⟨m ++ [(key, x)], A', c', w3, rfl, hr, (repE_M.1 ho.rep).mono (fun _ _ _ => trivial) (fun _ _ _ _ => rfl), ?_⟩
  refine ⟨hgr.os.trans hbx.os, hgr.tape.trans hbx.tape, hgr.output.trans hbx.output, Nat.le_trans hbx.size hgr.size, fun k hk => (hgr.block k (Nat.lt_of_lt_of_le hk hbx.size) (fun e => ?_)).trans (hbx.block k hk)⟩
  have := (hown.own k e.symm).1
  omega

section
variable {w w1 : World} {A : Option Addr} {c : Nat} {m : List (ByteArray × T)} {key : ByteArray} {x : T} {c0 c1 c2 c3 c4 c5 : Value} {S : Nat → Prop}
/-- The new pair is made first, then the copy. -/
theorem put_a (W0 : World) (hown : OwnE eltP w1 (W0.alloc (.cells #[.string key, c0, c1, c2, c3, c4, c5] 40)).drew.heap.size (fun b => b < (W0.alloc (.cells #[.string key, c0, c1, c2, c3, c4, c5] 40)).drew.heap.size) A c m)
    (hb1 : Below (W0.alloc (.cells #[.string key, c0, c1, c2, c3, c4, c5] 40)).drew.heap.size (W0.alloc (.cells #[.string key, c0, c1, c2, c3, c4, c5] 40)).drew w1)
    (hw : Below w.heap.size w W0) (hx : RepT w S (.agg #[c0, c1, c2, c3, c4, c5]) x) (hk : key.size ≤ 140737488351232) (hbig : (m.length + 1) * 104 ≤ 140737488355328) :
    ∃ (l : List (ByteArray × T)) (A' : Option Addr) (c' : Nat) (w3 : World), Hid (l = m ++ [(key, x)]) ∧
       (Builtin.append_ #[31, 31] 31 #[.slice A m.length c, .slice (some ⟨W0.heap.size, 0, none⟩) 1 1]).run Tryd.prog w1 = .ok (.slice A' l.length c') w3 ∧
      RepM w3 (fun _ => True) A' l ∧ Below W0.heap.size W0 w3 ∧ Below W0.heap.size W0 w1 := by
  have hb0 : Below W0.heap.size W0 w1 := Below.next (Below.new W0 (.cells #[.string key, c0, c1, c2, c3, c4, c5] 40)).drew hb1
  obtain ⟨l, A', c', w3, h1, h2, h3, h4⟩ := put_append (w := w) hown hb1 (Below.refl _ _) ((Blk.new _ _ _).drew.keep hb1) (.inl (by simp)) (hw.trans ((Below.new _ _).drew.mono hw.size)) hx hk hbig
  exact ⟨l, A', c', w3, h1, h2, h3, Below.next (Below.new W0 (.cells #[.string key, c0, c1, c2, c3, c4, c5] 40)).drew h4, hb0⟩
/-- The copy is made first, then the new pair. -/
theorem put_b (W0 : World) (hown : OwnE eltP w1 W0.drew.heap.size (fun b => b < W0.drew.heap.size) A c m) (hb1 : Below W0.drew.heap.size W0.drew w1)
    (hw : Below w.heap.size w W0) (hx : RepT w S (.agg #[c0, c1, c2, c3, c4, c5]) x) (hk : key.size ≤ 140737488351232) (hbig : (m.length + 1) * 104 ≤ 140737488355328) :
    ∃ (l : List (ByteArray × T)) (A' : Option Addr) (c' : Nat) (w3 : World), Hid (l = m ++ [(key, x)]) ∧
      (Builtin.append_ #[31, 31] 31 #[.slice A m.length c, .slice (some ⟨w1.heap.size, 0, none⟩) 1 1]).run Tryd.prog (w1.alloc (.cells #[.string key, c0, c1, c2, c3, c4, c5] 40)) = .ok (.slice A' l.length c') w3 ∧
      RepM w3 (fun _ => True) A' l ∧ Below W0.heap.size W0 w3 ∧ Below W0.heap.size W0 w1 := by
  obtain ⟨l, A', c', w3, h1, h2, h3, h4⟩ := put_append (w := w) hown hb1 (Below.new _ _) (Blk.new _ _ _) (.inr (Nat.le_refl _)) hw.drew hx hk hbig
  exact ⟨l, A', c', w3, h1, h2, h3, Below.next (Below.drew (Below.refl _ _)) h4, Below.next (Below.drew (Below.refl _ _)) hb1⟩
end

/-- The result's own box, behind the call that made the value. -/
theorem put_end {w W0 w3 w4 : World} {g : Nat} {v : Value} {t : T} {d0 d1 d2 d3 d4 d5 : Value} (h0 : Below w.heap.size w W0) (h3 : Below W0.heap.size W0 w3) (hr : RepT w4 (fun b => w3.heap.size ≤ b) v t) (_h4 : Below w3.heap.size w3 w4) (hg : g < W0.heap.size) :
    RepT (set6 w4 g 0 d0 d1 d2 d3 d4 d5) (fun b => w.heap.size ≤ b) v t := by
  have := h0.size
  have := h3.size
  exact hr.mono (fun b (hb : w3.heap.size ≤ b) _ => by show w.heap.size ≤ b; omega) (fun b o (hb : w3.heap.size ≤ b) hlt => World.cell?_of_block (w := w4) (set6_heap (o := 0) (show b ≠ g by omega)))

theorem baseM_len (t : T) : (baseM t).length ≤ t.map.length := by unfold baseM; split <;> simp

end Go.Proofs.YtdgeegfoocoohaaDoor
