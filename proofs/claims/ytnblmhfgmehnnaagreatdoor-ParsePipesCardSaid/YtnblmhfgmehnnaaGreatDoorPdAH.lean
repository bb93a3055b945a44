/- Several texts as one. -/
import Derived.Test.YtnblmhfgmehnnaaGreatDoorPdAG
/- The maker: what stands behind a block's word. -/
namespace Go.Proofs.YtnblmhfgmehnnaaGreatDoor
open Go.RowKit Go.Lib
attribute [local go_sem ↓] Go.wp_at_zero Go.wp_at_succ

def set16 (w : World) (g : Nat) (c0 c1 c2 c3 c4 c5 c6 c7 c8 c9 c10 c11 c12 c13 c14 c15 : Value) : World := (((((((((((((((w.setCell ⟨g, 0, none⟩ c0).setCell ⟨g, 1, none⟩ c1).setCell ⟨g, 2, none⟩ c2).setCell ⟨g, 3, none⟩ c3).setCell ⟨g, 4, none⟩ c4).setCell ⟨g, 5, none⟩ c5).setCell ⟨g, 6, none⟩ c6).setCell ⟨g, 7, none⟩ c7).setCell ⟨g, 8, none⟩ c8).setCell ⟨g, 9, none⟩ c9).setCell ⟨g, 10, none⟩ c10).setCell ⟨g, 11, none⟩ c11).setCell ⟨g, 12, none⟩ c12).setCell ⟨g, 13, none⟩ c13).setCell ⟨g, 14, none⟩ c14).setCell ⟨g, 15, none⟩ c15
theorem blk_set16 {w : World} {g ty : Nat} {c0 c1 c2 c3 c4 c5 c6 c7 c8 c9 c10 c11 c12 c13 c14 c15 d0 d1 d2 d3 d4 d5 d6 d7 d8 d9 d10 d11 d12 d13 d14 d15 : Value} (h : Blk w g ty #[d0, d1, d2, d3, d4, d5, d6, d7, d8, d9, d10, d11, d12, d13, d14, d15]) : Blk (set16 w g c0 c1 c2 c3 c4 c5 c6 c7 c8 c9 c10 c11 c12 c13 c14 c15) g ty #[c0, c1, c2, c3, c4, c5, c6, c7, c8, c9, c10, c11, c12, c13, c14, c15] := by
  have h1 : Blk (w.setCell ⟨g, 0, none⟩ c0) g ty #[c0, d1, d2, d3, d4, d5, d6, d7, d8, d9, d10, d11, d12, d13, d14, d15] := h.set_ 0 c0
  have h2 : Blk ((w.setCell ⟨g, 0, none⟩ c0).setCell ⟨g, 1, none⟩ c1) g ty #[c0, c1, d2, d3, d4, d5, d6, d7, d8, d9, d10, d11, d12, d13, d14, d15] := h1.set_ 1 c1
  have h3 : Blk (((w.setCell ⟨g, 0, none⟩ c0).setCell ⟨g, 1, none⟩ c1).setCell ⟨g, 2, none⟩ c2) g ty #[c0, c1, c2, d3, d4, d5, d6, d7, d8, d9, d10, d11, d12, d13, d14, d15] := h2.set_ 2 c2
  have h4 : Blk ((((w.setCell ⟨g, 0, none⟩ c0).setCell ⟨g, 1, none⟩ c1).setCell ⟨g, 2, none⟩ c2).setCell ⟨g, 3, none⟩ c3) g ty #[c0, c1, c2, c3, d4, d5, d6, d7, d8, d9, d10, d11, d12, d13, d14, d15] := h3.set_ 3 c3
  have h5 : Blk (((((w.setCell ⟨g, 0, none⟩ c0).setCell ⟨g, 1, none⟩ c1).setCell ⟨g, 2, none⟩ c2).setCell ⟨g, 3, none⟩ c3).setCell ⟨g, 4, none⟩ c4) g ty #[c0, c1, c2, c3, c4, d5, d6, d7, d8, d9, d10, d11, d12, d13, d14, d15] := h4.set_ 4 c4
  have h6 : Blk ((((((w.setCell ⟨g, 0, none⟩ c0).setCell ⟨g, 1, none⟩ c1).setCell ⟨g, 2, none⟩ c2).setCell ⟨g, 3, none⟩ c3).setCell ⟨g, 4, none⟩ c4).setCell ⟨g, 5, none⟩ c5) g ty #[c0, c1, c2, c3, c4, c5, d6, d7, d8, d9, d10, d11, d12, d13, d14, d15] := h5.set_ 5 c5
  have h7 : Blk (((((((w.setCell ⟨g, 0, none⟩ c0).setCell ⟨g, 1, none⟩ c1).setCell ⟨g, 2, none⟩ c2).setCell ⟨g, 3, none⟩ c3).setCell ⟨g, 4, none⟩ c4).setCell ⟨g, 5, none⟩ c5).setCell ⟨g, 6, none⟩ c6) g ty #[c0, c1, c2, c3, c4, c5, c6, d7, d8, d9, d10, d11, d12, d13, d14, d15] := h6.set_ 6 c6
  have h8 : Blk ((((((((w.setCell ⟨g, 0, none⟩ c0).setCell ⟨g, 1, none⟩ c1).setCell ⟨g, 2, none⟩ c2).setCell ⟨g, 3, none⟩ c3).setCell ⟨g, 4, none⟩ c4).setCell ⟨g, 5, none⟩ c5).setCell ⟨g, 6, none⟩ c6).setCell ⟨g, 7, none⟩ c7) g ty #[c0, c1, c2, c3, c4, c5, c6, c7, d8, d9, d10, d11, d12, d13, d14, d15] := h7.set_ 7 c7
  have h9 : Blk (((((((((w.setCell ⟨g, 0, none⟩ c0).setCell ⟨g, 1, none⟩ c1).setCell ⟨g, 2, none⟩ c2).setCell ⟨g, 3, none⟩ c3).setCell ⟨g, 4, none⟩ c4).setCell ⟨g, 5, none⟩ c5).setCell ⟨g, 6, none⟩ c6).setCell ⟨g, 7, none⟩ c7).setCell ⟨g, 8, none⟩ c8) g ty #[c0, c1, c2, c3, c4, c5, c6, c7, c8, d9, d10, d11, d12, d13, d14, d15] := h8.set_ 8 c8
  have h10 : Blk ((((((((((w.setCell ⟨g, 0, none⟩ c0).setCell ⟨g, 1, none⟩ c1).setCell ⟨g, 2, none⟩ c2).setCell ⟨g, 3, none⟩ c3).setCell ⟨g, 4, none⟩ c4).setCell ⟨g, 5, none⟩ c5).setCell ⟨g, 6, none⟩ c6).setCell ⟨g, 7, none⟩ c7).setCell ⟨g, 8, none⟩ c8).setCell ⟨g, 9, none⟩ c9) g ty #[c0, c1, c2, c3, c4, c5, c6, c7, c8, c9, d10, d11, d12, d13, d14, d15] := h9.set_ 9 c9
  have h11 : Blk (((((((((((w.setCell ⟨g, 0, none⟩ c0).setCell ⟨g, 1, none⟩ c1).setCell ⟨g, 2, none⟩ c2).setCell ⟨g, 3, none⟩ c3).setCell ⟨g, 4, none⟩ c4).setCell ⟨g, 5, none⟩ c5).setCell ⟨g, 6, none⟩ c6).setCell ⟨g, 7, none⟩ c7).setCell ⟨g, 8, none⟩ c8).setCell ⟨g, 9, none⟩ c9).setCell ⟨g, 10, none⟩ c10) g ty #[c0, c1, c2, c3, c4, c5, c6, c7, c8, c9, c10, d11, d12, d13, d14, d15] := h10.set_ 10 c10
  have h12 : Blk ((((((((((((w.setCell ⟨g, 0, none⟩ c0).setCell ⟨g, 1, none⟩ c1).setCell ⟨g, 2, none⟩ c2).setCell ⟨g, 3, none⟩ c3).setCell ⟨g, 4, none⟩ c4).setCell ⟨g, 5, none⟩ c5).setCell ⟨g, 6, none⟩ c6).setCell ⟨g, 7, none⟩ c7).setCell ⟨g, 8, none⟩ c8).setCell ⟨g, 9, none⟩ c9).setCell ⟨g, 10, none⟩ c10).setCell ⟨g, 11, none⟩ c11) g ty #[c0, c1, c2, c3, c4, c5, c6, c7, c8, c9, c10, c11, d12, d13, d14, d15] := h11.set_ 11 c11
  have h13 : Blk (((((((((((((w.setCell ⟨g, 0, none⟩ c0).setCell ⟨g, 1, none⟩ c1).setCell ⟨g, 2, none⟩ c2).setCell ⟨g, 3, none⟩ c3).setCell ⟨g, 4, none⟩ c4).setCell ⟨g, 5, none⟩ c5).setCell ⟨g, 6, none⟩ c6).setCell ⟨g, 7, none⟩ c7).setCell ⟨g, 8, none⟩ c8).setCell ⟨g, 9, none⟩ c9).setCell ⟨g, 10, none⟩ c10).setCell ⟨g, 11, none⟩ c11).setCell ⟨g, 12, none⟩ c12) g ty #[c0, c1, c2, c3, c4, c5, c6, c7, c8, c9, c10, c11, c12, d13, d14, d15] := h12.set_ 12 c12
  have h14 : Blk ((((((((((((((w.setCell ⟨g, 0, none⟩ c0).setCell ⟨g, 1, none⟩ c1).setCell ⟨g, 2, none⟩ c2).setCell ⟨g, 3, none⟩ c3).setCell ⟨g, 4, none⟩ c4).setCell ⟨g, 5, none⟩ c5).setCell ⟨g, 6, none⟩ c6).setCell ⟨g, 7, none⟩ c7).setCell ⟨g, 8, none⟩ c8).setCell ⟨g, 9, none⟩ c9).setCell ⟨g, 10, none⟩ c10).setCell ⟨g, 11, none⟩ c11).setCell ⟨g, 12, none⟩ c12).setCell ⟨g, 13, none⟩ c13) g ty #[c0, c1, c2, c3, c4, c5, c6, c7, c8, c9, c10, c11, c12, c13, d14, d15] := h13.set_ 13 c13
  have h15 : Blk (((((((((((((((w.setCell ⟨g, 0, none⟩ c0).setCell ⟨g, 1, none⟩ c1).setCell ⟨g, 2, none⟩ c2).setCell ⟨g, 3, none⟩ c3).setCell ⟨g, 4, none⟩ c4).setCell ⟨g, 5, none⟩ c5).setCell ⟨g, 6, none⟩ c6).setCell ⟨g, 7, none⟩ c7).setCell ⟨g, 8, none⟩ c8).setCell ⟨g, 9, none⟩ c9).setCell ⟨g, 10, none⟩ c10).setCell ⟨g, 11, none⟩ c11).setCell ⟨g, 12, none⟩ c12).setCell ⟨g, 13, none⟩ c13).setCell ⟨g, 14, none⟩ c14) g ty #[c0, c1, c2, c3, c4, c5, c6, c7, c8, c9, c10, c11, c12, c13, c14, d15] := h14.set_ 14 c14
  have h16 : Blk ((((((((((((((((w.setCell ⟨g, 0, none⟩ c0).setCell ⟨g, 1, none⟩ c1).setCell ⟨g, 2, none⟩ c2).setCell ⟨g, 3, none⟩ c3).setCell ⟨g, 4, none⟩ c4).setCell ⟨g, 5, none⟩ c5).setCell ⟨g, 6, none⟩ c6).setCell ⟨g, 7, none⟩ c7).setCell ⟨g, 8, none⟩ c8).setCell ⟨g, 9, none⟩ c9).setCell ⟨g, 10, none⟩ c10).setCell ⟨g, 11, none⟩ c11).setCell ⟨g, 12, none⟩ c12).setCell ⟨g, 13, none⟩ c13).setCell ⟨g, 14, none⟩ c14).setCell ⟨g, 15, none⟩ c15) g ty #[c0, c1, c2, c3, c4, c5, c6, c7, c8, c9, c10, c11, c12, c13, c14, c15] := h15.set_ 15 c15
  exact h16
theorem bar_set16 (w : World) (g : Nat) (c0 c1 c2 c3 c4 c5 c6 c7 c8 c9 c10 c11 c12 c13 c14 c15 : Value) : Bar w (set16 w g c0 c1 c2 c3 c4 c5 c6 c7 c8 c9 c10 c11 c12 c13 c14 c15) g :=
  ((((((((((((((((Bar.set g 0 _).trans (Bar.set g 1 _)).trans (Bar.set g 2 _)).trans (Bar.set g 3 _)).trans (Bar.set g 4 _)).trans (Bar.set g 5 _)).trans (Bar.set g 6 _)).trans (Bar.set g 7 _)).trans (Bar.set g 8 _)).trans (Bar.set g 9 _)).trans (Bar.set g 10 _)).trans (Bar.set g 11 _)).trans (Bar.set g 12 _)).trans (Bar.set g 13 _)).trans (Bar.set g 14 _)).trans (Bar.set g 15 _))
/-- A node that is made, and the maker behind it. -/
def NdPost (gm : Nat) (A : Option Addr) (c : Nat) (toks : List Tok) (x : Nd) (m' : Mk) (w : World) (e : Ending) (w' : World) : Prop :=
  ∃ cs, e = .returned (.agg (List.toArray cs)) ∧ RepN w' (fun b => w.heap.size ≤ b) cs x ∧ MkAt w' gm A c toks m' ∧ Bar w w' gm
theorem repN_leaf {w : World} {S : Nat → Prop} {k : Int} {t ky nm : ByteArray} {x : Ex} {la : Option Addr} {lc : Nat} {ma : Option Addr} {mc : Nat} {sa : Option Addr} {sc : Nat} {aa : Option Addr} {ac : Nat} (hk : i64ok k) (ht : t.size ≤ 140737488351232) (hx : RepX w S [.int .i64 x.kind, .int .i64 x.val.kind, .bool x.val.bool, .int .i64 x.val.int, .string x.val.str, .slice la x.val.list.length lc, .slice ma x.val.map.length mc, .string x.name, .slice sa x.steps.length sc, .slice aa x.args.length ac] x) (hky : ky.size ≤ 140737488351232) (hn : nm.size ≤ 140737488351232) :
    RepN w S [.int .i64 k, .string t, .int .i64 x.kind, .int .i64 x.val.kind, .bool x.val.bool, .int .i64 x.val.int, .string x.val.str, .slice la x.val.list.length lc, .slice ma x.val.map.length mc, .string x.name, .slice sa x.steps.length sc, .slice aa x.args.length ac, .string ky, .string nm, .slice none 0 0, .slice none 0 0] (.mk k t x ky nm [] []) :=
  RepN.of (n := .mk k t x ky nm [] []) (ba := none) (bc := 0) (ea := none) (ec := 0) ⟨hk, ht, hx, hky, hn, Room.nil _, Room.nil _, RepNs.nil, RepNs.nil⟩
theorem RepN.move {w w' : World} {S S' : Nat → Prop} {cs : List Value} {x : Nd} (h : RepN w S cs x) (hS : ∀ b, S b → b < w.heap.size → S' b) (hw : ∀ b, S b → b < w.heap.size → w'.heap[b]? = w.heap[b]?) : RepN w' S' cs x := h.mono hS (fun b o hb hlt => World.cell?_of_block (a := ⟨b, o, none⟩) (hw b hb hlt))
theorem empty_small : (⟨#[]⟩ : ByteArray).size ≤ 140737488351232 := by simp [ByteArray.size]

set_option maxRecDepth 100000 in
set_option maxHeartbeats 8000000 in
theorem head_if (gm : Nat) (A : Option Addr) (c : Nat) (toks : List Tok) (m : Mk) (s : ByteArray) (w : World) (h : MkAt w gm A c toks m) (hs : s.size ≤ 1000000) (hv : ScalV w)  : Calls Tryz.prog 80 #[.pointer (some ⟨gm, 0, none⟩), .string ⟨#[105, 102]⟩, .string s] w (NdPost gm A c toks (headF ifW s.data.toList m).1 (headF ifW s.data.toList m).2 w) := by
  rw [show headF ifW s.data.toList m = (.mk 2 ⟨#[]⟩ (mpipe m s.data.toList).1 ⟨#[]⟩ ⟨#[]⟩ [] [], (mpipe m s.data.toList).2) from by rw [headF, if_pos rfl]]
  have CP := Lib.hid (fun (W : World) (hW : MkAt W gm A c toks m) (hvW : ScalV W) => tmpipe gm A c toks m s W hW hs hvW)
  obtain ⟨x, hx⟩ : ∃ z, z = (mpipe m s.data.toList).1 := ⟨_, rfl⟩
  obtain ⟨m2, hm2⟩ : ∃ z, z = (mpipe m s.data.toList).2 := ⟨_, rfl⟩
  rw [← hx, ← hm2] at CP ⊢
  clear hx hm2
  have hgm := h.blk.lt
  have hb0 : Below w.heap.size w (w.alloc (.cells #[.int .i64 0, .string ⟨#[]⟩, .int .i64 0, .int .i64 0, .bool false, .int .i64 0, .string ⟨#[]⟩, .slice none 0 0, .slice none 0 0, .string ⟨#[]⟩, .slice none 0 0, .slice none 0 0, .string ⟨#[]⟩, .string ⟨#[]⟩, .slice none 0 0, .slice none 0 0] 64)) := Below.new _ _
  have H0 := Lib.hid (h.keep hb0); have HX0 := Lib.hid (show Blk (w.alloc (.cells #[.int .i64 0, .string ⟨#[]⟩, .int .i64 0, .int .i64 0, .bool false, .int .i64 0, .string ⟨#[]⟩, .slice none 0 0, .slice none 0 0, .string ⟨#[]⟩, .slice none 0 0, .slice none 0 0, .string ⟨#[]⟩, .string ⟨#[]⟩, .slice none 0 0, .slice none 0 0] 64)) w.heap.size 64 #[.int .i64 0, .string ⟨#[]⟩, .int .i64 0, .int .i64 0, .bool false, .int .i64 0, .string ⟨#[]⟩, .slice none 0 0, .slice none 0 0, .string ⟨#[]⟩, .slice none 0 0, .slice none 0 0, .string ⟨#[]⟩, .string ⟨#[]⟩, .slice none 0 0, .slice none 0 0] from Blk.new _ _ _); have HB0 := Lib.hid (Bar.of (gc := gm) hb0)
  have HV0 := Lib.hid (hv.keep hb0)
  clear h
  obtain ⟨W0, e0⟩ : ∃ z, z = w.alloc (.cells #[.int .i64 0, .string ⟨#[]⟩, .int .i64 0, .int .i64 0, .bool false, .int .i64 0, .string ⟨#[]⟩, .slice none 0 0, .slice none 0 0, .string ⟨#[]⟩, .slice none 0 0, .slice none 0 0, .string ⟨#[]⟩, .string ⟨#[]⟩, .slice none 0 0, .slice none 0 0] 64) := ⟨_, rfl⟩
  obtain ⟨n6, e6⟩ : ∃ z, z = w.heap.size := ⟨_, rfl⟩
  rw [← e0] at H0 HX0 HB0 HV0
  rw [← e6] at HX0
  have hn6g : gm < n6 := by omega
  have E0 := Lib.hid e0; have E6 := Lib.hid e6
  clear e0 e6 hb0
  go_enter Tryz.func80, Tryz.ntmps80
  refine wp_seq_cut (fun K0 hK0 => ?_)
  go_wp2_with fail
  refine hK0.out _ _ ?_
  rw [← E0.out, ← E6.out]
  clear E0 hK0 K0
  go_wp2_with fail
  refine (CP.out _ H0.out HV0.out).mono ?_
  rintro e w1 ⟨cs, rfl, hx1, hm1, hbar1⟩
  obtain ⟨la, lc, ma, mc, sa, sc, aa, ac, rfl, -⟩ := hx1.1.inv
  have HX1 := Lib.hid (hbar1.blk HX0.out (by omega)); have HM1 := Lib.hid hm1; have HB1 := Lib.hid (HB0.out.trans hbar1); have HXX := Lib.hid hx1.1; have HN := Lib.hid HX0.out.lt
  clear hx1 hm1 hbar1
  have k6 := HX1.out.cell; have f6 := HX1.out.frozen; have l6 := HX1.out.lt
  go_wp2_with fail
  refine ret_cell (p := 6) (g := n6) rfl rfl (blk_set16 (w := w1) HX1.out) Tryz.underlying64 (by kernel_rfl) rfl ?_
  refine ⟨_, rfl, (repN_leaf (k := 2) (by unfold i64ok; omega) empty_small HXX.out empty_small empty_small).move (fun b hb _ => by have h1 := HB0.out.size; show w.heap.size ≤ b; omega) (fun b hb hlt => Bar.block (bar_set16 _ _ _ _ _ _ _ _ _ _ _ _ _ _ _ _ _ _) b hlt (by have h1 := HN.out; omega)), HM1.out.bar (bar_set16 _ _ _ _ _ _ _ _ _ _ _ _ _ _ _ _ _ _) hn6g, Bar.join HB1.out (bar_set16 _ _ _ _ _ _ _ _ _ _ _ _ _ _ _ _ _ _) (by have := E6.out; omega)⟩

set_option maxRecDepth 100000 in
set_option maxHeartbeats 8000000 in
theorem head_with (gm : Nat) (A : Option Addr) (c : Nat) (toks : List Tok) (m : Mk) (s : ByteArray) (w : World) (h : MkAt w gm A c toks m) (hs : s.size ≤ 1000000) (hv : ScalV w)  : Calls Tryz.prog 80 #[.pointer (some ⟨gm, 0, none⟩), .string ⟨#[119, 105, 116, 104]⟩, .string s] w (NdPost gm A c toks (headF withW s.data.toList m).1 (headF withW s.data.toList m).2 w) := by
  rw [show headF withW s.data.toList m = (.mk 3 ⟨#[]⟩ (mpipe m s.data.toList).1 ⟨#[]⟩ ⟨#[]⟩ [] [], (mpipe m s.data.toList).2) from by rw [headF, if_neg (by decide), if_pos rfl]]
  have CP := Lib.hid (fun (W : World) (hW : MkAt W gm A c toks m) (hvW : ScalV W) => tmpipe gm A c toks m s W hW hs hvW)
  obtain ⟨x, hx⟩ : ∃ z, z = (mpipe m s.data.toList).1 := ⟨_, rfl⟩
  obtain ⟨m2, hm2⟩ : ∃ z, z = (mpipe m s.data.toList).2 := ⟨_, rfl⟩
  rw [← hx, ← hm2] at CP ⊢
  clear hx hm2
  have hgm := h.blk.lt
  have hb0 : Below w.heap.size w (w.alloc (.cells #[.int .i64 0, .string ⟨#[]⟩, .int .i64 0, .int .i64 0, .bool false, .int .i64 0, .string ⟨#[]⟩, .slice none 0 0, .slice none 0 0, .string ⟨#[]⟩, .slice none 0 0, .slice none 0 0, .string ⟨#[]⟩, .string ⟨#[]⟩, .slice none 0 0, .slice none 0 0] 64)) := Below.new _ _
  have H0 := Lib.hid (h.keep hb0); have HX0 := Lib.hid (show Blk (w.alloc (.cells #[.int .i64 0, .string ⟨#[]⟩, .int .i64 0, .int .i64 0, .bool false, .int .i64 0, .string ⟨#[]⟩, .slice none 0 0, .slice none 0 0, .string ⟨#[]⟩, .slice none 0 0, .slice none 0 0, .string ⟨#[]⟩, .string ⟨#[]⟩, .slice none 0 0, .slice none 0 0] 64)) w.heap.size 64 #[.int .i64 0, .string ⟨#[]⟩, .int .i64 0, .int .i64 0, .bool false, .int .i64 0, .string ⟨#[]⟩, .slice none 0 0, .slice none 0 0, .string ⟨#[]⟩, .slice none 0 0, .slice none 0 0, .string ⟨#[]⟩, .string ⟨#[]⟩, .slice none 0 0, .slice none 0 0] from Blk.new _ _ _); have HB0 := Lib.hid (Bar.of (gc := gm) hb0)
  have HV0 := Lib.hid (hv.keep hb0)
  clear h
  obtain ⟨W0, e0⟩ : ∃ z, z = w.alloc (.cells #[.int .i64 0, .string ⟨#[]⟩, .int .i64 0, .int .i64 0, .bool false, .int .i64 0, .string ⟨#[]⟩, .slice none 0 0, .slice none 0 0, .string ⟨#[]⟩, .slice none 0 0, .slice none 0 0, .string ⟨#[]⟩, .string ⟨#[]⟩, .slice none 0 0, .slice none 0 0] 64) := ⟨_, rfl⟩
  obtain ⟨n6, e6⟩ : ∃ z, z = w.heap.size := ⟨_, rfl⟩
  rw [← e0] at H0 HX0 HB0 HV0
  rw [← e6] at HX0
  have hn6g : gm < n6 := by omega
  have E0 := Lib.hid e0; have E6 := Lib.hid e6
  clear e0 e6 hb0
  go_enter Tryz.func80, Tryz.ntmps80
  refine wp_seq_cut (fun K0 hK0 => ?_)
  go_wp2_with fail
  refine hK0.out _ _ ?_
  rw [← E0.out, ← E6.out]
  clear E0 hK0 K0
  go_wp2_with fail
  refine (CP.out _ H0.out HV0.out).mono ?_
  rintro e w1 ⟨cs, rfl, hx1, hm1, hbar1⟩
  obtain ⟨la, lc, ma, mc, sa, sc, aa, ac, rfl, -⟩ := hx1.1.inv
  have HX1 := Lib.hid (hbar1.blk HX0.out (by omega)); have HM1 := Lib.hid hm1; have HB1 := Lib.hid (HB0.out.trans hbar1); have HXX := Lib.hid hx1.1; have HN := Lib.hid HX0.out.lt
  clear hx1 hm1 hbar1
  have k6 := HX1.out.cell; have f6 := HX1.out.frozen; have l6 := HX1.out.lt
  go_wp2_with fail
  refine ret_cell (p := 6) (g := n6) rfl rfl (blk_set16 (w := w1) HX1.out) Tryz.underlying64 (by kernel_rfl) rfl ?_
  refine ⟨_, rfl, (repN_leaf (k := 3) (by unfold i64ok; omega) empty_small HXX.out empty_small empty_small).move (fun b hb _ => by have h1 := HB0.out.size; show w.heap.size ≤ b; omega) (fun b hb hlt => Bar.block (bar_set16 _ _ _ _ _ _ _ _ _ _ _ _ _ _ _ _ _ _) b hlt (by have h1 := HN.out; omega)), HM1.out.bar (bar_set16 _ _ _ _ _ _ _ _ _ _ _ _ _ _ _ _ _ _) hn6g, Bar.join HB1.out (bar_set16 _ _ _ _ _ _ _ _ _ _ _ _ _ _ _ _ _ _) (by have := E6.out; omega)⟩

set_option maxRecDepth 100000 in
set_option maxHeartbeats 8000000 in
theorem head_define (gm : Nat) (A : Option Addr) (c : Nat) (toks : List Tok) (m : Mk) (s : ByteArray) (w : World) (h : MkAt w gm A c toks m) (hs : s.size ≤ 1000000) (hv : ScalV w)  : Calls Tryz.prog 80 #[.pointer (some ⟨gm, 0, none⟩), .string ⟨#[100, 101, 102, 105, 110, 101]⟩, .string s] w (NdPost gm A c toks (headF defineW s.data.toList m).1 (headF defineW s.data.toList m).2 w) := by
  obtain ⟨x, hx⟩ : ∃ z, z = (allF s.data.toList).1 := ⟨_, rfl⟩
  obtain ⟨b, hb⟩ : ∃ z, z = (allF s.data.toList).2 := ⟨_, rfl⟩
  obtain ⟨m2, hm2⟩ : ∃ z, z = (if b ≠ 0 ∨ x.kind ≠ 0 ∨ x.val.kind ≠ 3 ∨ nameL x.val.str.data.toList = false ∨ 1 < m.deep then m.fail (if b = 0 then 22 else b) else m) := ⟨_, rfl⟩
  rw [show headF defineW s.data.toList m = (.mk 6 ⟨#[]⟩ Ex.zero ⟨#[]⟩ x.val.str [] [], m2) from by rw [headF, if_neg (by decide), if_neg (by decide), if_pos rfl, hm2, hx, hb]]
  have CA := Lib.hid (fun (W : World) (hvW : ScalV W) => show Calls Tryz.prog 32 #[.string s] W (fun e w' => ∃ cs, e = .returned (.tuple #[.agg (List.toArray cs), .int .i64 b]) ∧ RepO w' W.heap.size cs x ∧ Below W.heap.size W w') from by rw [hx, hb]; exact tall s W hs hvW)
  have HM2 := Lib.hid hm2
  have HOR := Lib.hid (show orI b 22 = (if b = 0 then 22 else b) from by unfold orI; by_cases h : b = 0 <;> simp [h])
  clear hx hb hm2
  simp only
  have hgm := h.blk.lt
  have hb0 : Below w.heap.size w (w.alloc (.cells #[.int .i64 0, .string ⟨#[]⟩, .int .i64 0, .int .i64 0, .bool false, .int .i64 0, .string ⟨#[]⟩, .slice none 0 0, .slice none 0 0, .string ⟨#[]⟩, .slice none 0 0, .slice none 0 0, .string ⟨#[]⟩, .string ⟨#[]⟩, .slice none 0 0, .slice none 0 0] 64)) := Below.new _ _
  have H0 := Lib.hid (h.keep hb0); have HX0 := Lib.hid (show Blk (w.alloc (.cells #[.int .i64 0, .string ⟨#[]⟩, .int .i64 0, .int .i64 0, .bool false, .int .i64 0, .string ⟨#[]⟩, .slice none 0 0, .slice none 0 0, .string ⟨#[]⟩, .slice none 0 0, .slice none 0 0, .string ⟨#[]⟩, .string ⟨#[]⟩, .slice none 0 0, .slice none 0 0] 64)) w.heap.size 64 #[.int .i64 0, .string ⟨#[]⟩, .int .i64 0, .int .i64 0, .bool false, .int .i64 0, .string ⟨#[]⟩, .slice none 0 0, .slice none 0 0, .string ⟨#[]⟩, .slice none 0 0, .slice none 0 0, .string ⟨#[]⟩, .string ⟨#[]⟩, .slice none 0 0, .slice none 0 0] from Blk.new _ _ _); have HB0 := Lib.hid (Bar.of (gc := gm) hb0)
  have HV0 := Lib.hid (hv.keep hb0)
  clear h
  obtain ⟨W0, e0⟩ : ∃ z, z = w.alloc (.cells #[.int .i64 0, .string ⟨#[]⟩, .int .i64 0, .int .i64 0, .bool false, .int .i64 0, .string ⟨#[]⟩, .slice none 0 0, .slice none 0 0, .string ⟨#[]⟩, .slice none 0 0, .slice none 0 0, .string ⟨#[]⟩, .string ⟨#[]⟩, .slice none 0 0, .slice none 0 0] 64) := ⟨_, rfl⟩
  obtain ⟨n6, e6⟩ : ∃ z, z = w.heap.size := ⟨_, rfl⟩
  rw [← e0] at H0 HX0 HB0 HV0
  rw [← e6] at HX0
  have hn6g : gm < n6 := by omega
  have E0 := Lib.hid e0; have E6 := Lib.hid e6
  clear e0 e6 hb0
  go_enter Tryz.func80, Tryz.ntmps80
  refine wp_seq_cut (fun K0 hK0 => ?_)
  go_wp2_with fail
  refine hK0.out _ _ ?_
  rw [← E0.out, ← E6.out]
  clear E0 hK0 K0
  go_wp2_with fail
  refine (CA.out _ HV0.out).mono ?_
  rintro e w1 ⟨cs, rfl, hx1, hb1⟩
  obtain ⟨la, lc, ma, mc, sa, sc, aa, ac, rfl, hpx⟩ := hx1.1.inv
  obtain ⟨-, -, -, -, -, hz9⟩ := And.intro trivial (And.intro trivial (And.intro trivial (And.intro trivial (And.intro trivial hpx.val))))
  have hstr : x.val.str.size ≤ 140737488351232 := by obtain ⟨_, _, _, _, _, h9, h8, h7, _⟩ := hz9.inv; exact h7
  have CN := Lib.hid (fun (W : World) => tnameL x.val.str W hstr)
  have HST := Lib.hid hstr
  have hba := Below.new w1 (.cells #[.int .i64 x.kind, .int .i64 x.val.kind, .bool x.val.bool, .int .i64 x.val.int, .string x.val.str, .slice la x.val.list.length lc, .slice ma x.val.map.length mc, .string x.name, .slice sa x.steps.length sc, .slice aa x.args.length ac] 50)
  have HX1 := Lib.hid ((HX0.out.keep hb1).keep hba); have HM1 := Lib.hid ((H0.out.keep hb1).keep hba); have HB1 := Lib.hid ((HB0.out.trans (Bar.of hb1)).trans (Bar.of hba))
  have HY1 := Lib.hid (show Blk (w1.alloc (.cells #[.int .i64 x.kind, .int .i64 x.val.kind, .bool x.val.bool, .int .i64 x.val.int, .string x.val.str, .slice la x.val.list.length lc, .slice ma x.val.map.length mc, .string x.name, .slice sa x.steps.length sc, .slice aa x.args.length ac] 50)) w1.heap.size 50 #[.int .i64 x.kind, .int .i64 x.val.kind, .bool x.val.bool, .int .i64 x.val.int, .string x.val.str, .slice la x.val.list.length lc, .slice ma x.val.map.length mc, .string x.name, .slice sa x.steps.length sc, .slice aa x.args.length ac] from Blk.new _ _ _)
  have hl2 : n6 < w1.heap.size := Nat.lt_of_lt_of_le HX0.out.lt hb1.size
  clear hba hb1 hx1 hpx hz9 hstr
  go_upto_region 8 with fail
  obtain ⟨WA, eA⟩ : ∃ z, z = w1.alloc (.cells #[.int .i64 x.kind, .int .i64 x.val.kind, .bool x.val.bool, .int .i64 x.val.int, .string x.val.str, .slice la x.val.list.length lc, .slice ma x.val.map.length mc, .string x.name, .slice sa x.steps.length sc, .slice aa x.args.length ac] 50) := ⟨_, rfl⟩
  obtain ⟨n7, e7⟩ : ∃ z, z = w1.heap.size := ⟨_, rfl⟩
  rw [← eA] at HX1 HM1 HB1 HY1
  rw [← e7] at HY1 hl2
  rw [← eA, ← e7]
  clear eA e7
  obtain ⟨nb, hnb⟩ : ∃ z, z = nameL x.val.str.data.toList := ⟨_, rfl⟩
  rw [← hnb] at CN HM2
  clear hnb
  have k7 := HY1.out.cell; have f7 := HY1.out.frozen; have l7 := HY1.out.lt; have km := HM1.out.blk.cell; have fm := HM1.out.blk.frozen; have lm := HM1.out.blk.lt
  by_cases h1 : b = 0
  · have g1 : (b != 0) = false := by rw [h1]; rfl
    by_cases h2 : x.kind = 0
    · have g2 : (x.kind != 0) = false := by rw [h2]; rfl
      by_cases h3 : x.val.kind = 3
      · have g3 : (x.val.kind != 3) = false := by rw [h3]; rfl
        cases nb with
        | true =>
          by_cases h5 : 1 < m.deep
          · have HE := Lib.hid (show m2 = m.fail (if b = 0 then 22 else b) from by rw [HM2.out]; exact if_pos (.inr (.inr (.inr (.inr h5)))))
            clear HM2 h1 h2 h3
            go_wp2_with (go_at_call 20; refine (CN.out _).mono ?_; rintro e w9 ⟨rfl, rfl⟩)
            refine (cmp_orE (g := WA.heap.size) _ (Blk.new WA _ _)).mono ?_
            rintro e w5 ⟨rfl, rfl⟩
            rw [HOR.out]
            have hb5 := Below.new WA (.cells #[.int .i64 b, .int .i64 22] 31)
            have H5 := Lib.hid (HM1.out.keep hb5); have HX5 := Lib.hid (HX1.out.keep hb5); have HY5 := Lib.hid (HY1.out.keep hb5); have HB5 := Lib.hid (HB1.out.trans (Bar.of hb5))
            clear k7 f7 l7 km fm lm hb5
            obtain ⟨eb, heb⟩ : ∃ z, z = (if b = 0 then (22 : Int) else b) := ⟨_, rfl⟩
            rw [← heb] at HE ⊢
            clear heb
            go_wp2_with fail
            refine (mfail gm A c toks m eb _ H5.out).mono ?_
            rintro e w6 ⟨rfl, hm6, hbar6⟩
            have HM6 := Lib.hid hm6; have HX6 := Lib.hid (hbar6.blk HX5.out (by omega)); have HY6 := Lib.hid (hbar6.blk HY5.out (by omega)); have HB6 := Lib.hid (HB5.out.trans hbar6)
            clear hm6 hbar6
            have k7 := HY6.out.cell; have f7 := HY6.out.frozen; have l7 := HY6.out.lt; have k6 := HX6.out.cell; have f6 := HX6.out.frozen; have l6 := HX6.out.lt
            go_wp2_with fail
            refine ret_cell (p := 6) (g := n6) rfl rfl (blk_set16 (w := w6) HX6.out) Tryz.underlying64 (by kernel_rfl) rfl ?_
            rw [HE.out]
            exact ⟨_, rfl, repN_leaf (k := 6) (x := Ex.zero) (la := none) (lc := 0) (ma := none) (mc := 0) (sa := none) (sc := 0) (aa := none) (ac := 0) (by unfold i64ok; omega) empty_small repX_zero empty_small HST.out, HM6.out.bar (bar_set16 _ _ _ _ _ _ _ _ _ _ _ _ _ _ _ _ _ _) hn6g, Bar.join HB6.out (bar_set16 _ _ _ _ _ _ _ _ _ _ _ _ _ _ _ _ _ _) (by have := E6.out; omega)⟩
          · have HE := Lib.hid (show m2 = m from by rw [HM2.out]; exact if_neg (by rintro (h | h | h | h | h); exact h h1; exact h h2; exact h h3; cases h; exact h5 h))
            clear HM2 h1 h2 h3
            have k6 := HX1.out.cell; have f6 := HX1.out.frozen; have l6 := HX1.out.lt
            go_wp2_with (go_at_call 20; refine (CN.out _).mono ?_; rintro e w9 ⟨rfl, rfl⟩)
            refine ret_cell (p := 6) (g := n6) rfl rfl (blk_set16 (w := WA) HX1.out) Tryz.underlying64 (by kernel_rfl) rfl ?_
            rw [HE.out]
            exact ⟨_, rfl, repN_leaf (k := 6) (x := Ex.zero) (la := none) (lc := 0) (ma := none) (mc := 0) (sa := none) (sc := 0) (aa := none) (ac := 0) (by unfold i64ok; omega) empty_small repX_zero empty_small HST.out, HM1.out.bar (bar_set16 _ _ _ _ _ _ _ _ _ _ _ _ _ _ _ _ _ _) hn6g, Bar.join HB1.out (bar_set16 _ _ _ _ _ _ _ _ _ _ _ _ _ _ _ _ _ _) (by have := E6.out; omega)⟩
        | false =>
          have HE := Lib.hid (show m2 = m.fail (if b = 0 then 22 else b) from by rw [HM2.out]; exact if_pos (.inr (.inr (.inr (.inl rfl)))))
          clear HM2 h1 h2 h3
          go_wp2_with (go_at_call 20; refine (CN.out _).mono ?_; rintro e w9 ⟨rfl, rfl⟩)
          refine (cmp_orE (g := WA.heap.size) _ (Blk.new WA _ _)).mono ?_
          rintro e w5 ⟨rfl, rfl⟩
          rw [HOR.out]
          have hb5 := Below.new WA (.cells #[.int .i64 b, .int .i64 22] 31)
          have H5 := Lib.hid (HM1.out.keep hb5); have HX5 := Lib.hid (HX1.out.keep hb5); have HY5 := Lib.hid (HY1.out.keep hb5); have HB5 := Lib.hid (HB1.out.trans (Bar.of hb5))
          clear k7 f7 l7 km fm lm hb5
          obtain ⟨eb, heb⟩ : ∃ z, z = (if b = 0 then (22 : Int) else b) := ⟨_, rfl⟩
          rw [← heb] at HE ⊢
          clear heb
          go_wp2_with fail
          refine (mfail gm A c toks m eb _ H5.out).mono ?_
          rintro e w6 ⟨rfl, hm6, hbar6⟩
          have HM6 := Lib.hid hm6; have HX6 := Lib.hid (hbar6.blk HX5.out (by omega)); have HY6 := Lib.hid (hbar6.blk HY5.out (by omega)); have HB6 := Lib.hid (HB5.out.trans hbar6)
          clear hm6 hbar6
          have k7 := HY6.out.cell; have f7 := HY6.out.frozen; have l7 := HY6.out.lt; have k6 := HX6.out.cell; have f6 := HX6.out.frozen; have l6 := HX6.out.lt
          go_wp2_with fail
          refine ret_cell (p := 6) (g := n6) rfl rfl (blk_set16 (w := w6) HX6.out) Tryz.underlying64 (by kernel_rfl) rfl ?_
          rw [HE.out]
          exact ⟨_, rfl, repN_leaf (k := 6) (x := Ex.zero) (la := none) (lc := 0) (ma := none) (mc := 0) (sa := none) (sc := 0) (aa := none) (ac := 0) (by unfold i64ok; omega) empty_small repX_zero empty_small HST.out, HM6.out.bar (bar_set16 _ _ _ _ _ _ _ _ _ _ _ _ _ _ _ _ _ _) hn6g, Bar.join HB6.out (bar_set16 _ _ _ _ _ _ _ _ _ _ _ _ _ _ _ _ _ _) (by have := E6.out; omega)⟩
      · have g3 : (x.val.kind != 3) = true := bne_iff_ne.2 h3
        have HE := Lib.hid (show m2 = m.fail (if b = 0 then 22 else b) from by rw [HM2.out]; exact if_pos (.inr (.inr (.inl h3))))
        clear HM2 h1 h2 h3
        go_wp2_with (go_at_call 20; refine (CN.out _).mono ?_; rintro e w9 ⟨rfl, rfl⟩)
        refine (cmp_orE (g := WA.heap.size) _ (Blk.new WA _ _)).mono ?_
        rintro e w5 ⟨rfl, rfl⟩
        rw [HOR.out]
        have hb5 := Below.new WA (.cells #[.int .i64 b, .int .i64 22] 31)
        have H5 := Lib.hid (HM1.out.keep hb5); have HX5 := Lib.hid (HX1.out.keep hb5); have HY5 := Lib.hid (HY1.out.keep hb5); have HB5 := Lib.hid (HB1.out.trans (Bar.of hb5))
        clear k7 f7 l7 km fm lm hb5
        obtain ⟨eb, heb⟩ : ∃ z, z = (if b = 0 then (22 : Int) else b) := ⟨_, rfl⟩
        rw [← heb] at HE ⊢
        clear heb
        go_wp2_with fail
        refine (mfail gm A c toks m eb _ H5.out).mono ?_
        rintro e w6 ⟨rfl, hm6, hbar6⟩
        have HM6 := Lib.hid hm6; have HX6 := Lib.hid (hbar6.blk HX5.out (by omega)); have HY6 := Lib.hid (hbar6.blk HY5.out (by omega)); have HB6 := Lib.hid (HB5.out.trans hbar6)
        clear hm6 hbar6
        have k7 := HY6.out.cell; have f7 := HY6.out.frozen; have l7 := HY6.out.lt; have k6 := HX6.out.cell; have f6 := HX6.out.frozen; have l6 := HX6.out.lt
        go_wp2_with fail
        refine ret_cell (p := 6) (g := n6) rfl rfl (blk_set16 (w := w6) HX6.out) Tryz.underlying64 (by kernel_rfl) rfl ?_
        rw [HE.out]
        exact ⟨_, rfl, repN_leaf (k := 6) (x := Ex.zero) (la := none) (lc := 0) (ma := none) (mc := 0) (sa := none) (sc := 0) (aa := none) (ac := 0) (by unfold i64ok; omega) empty_small repX_zero empty_small HST.out, HM6.out.bar (bar_set16 _ _ _ _ _ _ _ _ _ _ _ _ _ _ _ _ _ _) hn6g, Bar.join HB6.out (bar_set16 _ _ _ _ _ _ _ _ _ _ _ _ _ _ _ _ _ _) (by have := E6.out; omega)⟩
    · have g2 : (x.kind != 0) = true := bne_iff_ne.2 h2
      have HE := Lib.hid (show m2 = m.fail (if b = 0 then 22 else b) from by rw [HM2.out]; exact if_pos (.inr (.inl h2)))
      clear HM2 h1 h2
      go_wp2_with (go_at_call 20; refine (CN.out _).mono ?_; rintro e w9 ⟨rfl, rfl⟩)
      refine (cmp_orE (g := WA.heap.size) _ (Blk.new WA _ _)).mono ?_
      rintro e w5 ⟨rfl, rfl⟩
      rw [HOR.out]
      have hb5 := Below.new WA (.cells #[.int .i64 b, .int .i64 22] 31)
      have H5 := Lib.hid (HM1.out.keep hb5); have HX5 := Lib.hid (HX1.out.keep hb5); have HY5 := Lib.hid (HY1.out.keep hb5); have HB5 := Lib.hid (HB1.out.trans (Bar.of hb5))
      clear k7 f7 l7 km fm lm hb5
      obtain ⟨eb, heb⟩ : ∃ z, z = (if b = 0 then (22 : Int) else b) := ⟨_, rfl⟩
      rw [← heb] at HE ⊢
      clear heb
      go_wp2_with fail
      refine (mfail gm A c toks m eb _ H5.out).mono ?_
      rintro e w6 ⟨rfl, hm6, hbar6⟩
      have HM6 := Lib.hid hm6; have HX6 := Lib.hid (hbar6.blk HX5.out (by omega)); have HY6 := Lib.hid (hbar6.blk HY5.out (by omega)); have HB6 := Lib.hid (HB5.out.trans hbar6)
      clear hm6 hbar6
      have k7 := HY6.out.cell; have f7 := HY6.out.frozen; have l7 := HY6.out.lt; have k6 := HX6.out.cell; have f6 := HX6.out.frozen; have l6 := HX6.out.lt
      go_wp2_with fail
      refine ret_cell (p := 6) (g := n6) rfl rfl (blk_set16 (w := w6) HX6.out) Tryz.underlying64 (by kernel_rfl) rfl ?_
      rw [HE.out]
      exact ⟨_, rfl, repN_leaf (k := 6) (x := Ex.zero) (la := none) (lc := 0) (ma := none) (mc := 0) (sa := none) (sc := 0) (aa := none) (ac := 0) (by unfold i64ok; omega) empty_small repX_zero empty_small HST.out, HM6.out.bar (bar_set16 _ _ _ _ _ _ _ _ _ _ _ _ _ _ _ _ _ _) hn6g, Bar.join HB6.out (bar_set16 _ _ _ _ _ _ _ _ _ _ _ _ _ _ _ _ _ _) (by have := E6.out; omega)⟩
  · have g1 : (b != 0) = true := bne_iff_ne.2 h1
    have HE := Lib.hid (show m2 = m.fail (if b = 0 then 22 else b) from by rw [HM2.out]; exact if_pos (.inl h1))
    clear HM2 h1
    go_wp2_with (go_at_call 20; refine (CN.out _).mono ?_; rintro e w9 ⟨rfl, rfl⟩)
    refine (cmp_orE (g := WA.heap.size) _ (Blk.new WA _ _)).mono ?_
    rintro e w5 ⟨rfl, rfl⟩
    rw [HOR.out]
    have hb5 := Below.new WA (.cells #[.int .i64 b, .int .i64 22] 31)
    have H5 := Lib.hid (HM1.out.keep hb5); have HX5 := Lib.hid (HX1.out.keep hb5); have HY5 := Lib.hid (HY1.out.keep hb5); have HB5 := Lib.hid (HB1.out.trans (Bar.of hb5))
    clear k7 f7 l7 km fm lm hb5
    obtain ⟨eb, heb⟩ : ∃ z, z = (if b = 0 then (22 : Int) else b) := ⟨_, rfl⟩
    rw [← heb] at HE ⊢
    clear heb
    go_wp2_with fail
    refine (mfail gm A c toks m eb _ H5.out).mono ?_
    rintro e w6 ⟨rfl, hm6, hbar6⟩
    have HM6 := Lib.hid hm6; have HX6 := Lib.hid (hbar6.blk HX5.out (by omega)); have HY6 := Lib.hid (hbar6.blk HY5.out (by omega)); have HB6 := Lib.hid (HB5.out.trans hbar6)
    clear hm6 hbar6
    have k7 := HY6.out.cell; have f7 := HY6.out.frozen; have l7 := HY6.out.lt; have k6 := HX6.out.cell; have f6 := HX6.out.frozen; have l6 := HX6.out.lt
    go_wp2_with fail
    refine ret_cell (p := 6) (g := n6) rfl rfl (blk_set16 (w := w6) HX6.out) Tryz.underlying64 (by kernel_rfl) rfl ?_
    rw [HE.out]
    exact ⟨_, rfl, repN_leaf (k := 6) (x := Ex.zero) (la := none) (lc := 0) (ma := none) (mc := 0) (sa := none) (sc := 0) (aa := none) (ac := 0) (by unfold i64ok; omega) empty_small repX_zero empty_small HST.out, HM6.out.bar (bar_set16 _ _ _ _ _ _ _ _ _ _ _ _ _ _ _ _ _ _) hn6g, Bar.join HB6.out (bar_set16 _ _ _ _ _ _ _ _ _ _ _ _ _ _ _ _ _ _) (by have := E6.out; omega)⟩
end Go.Proofs.YtnblmhfgmehnnaaGreatDoor

