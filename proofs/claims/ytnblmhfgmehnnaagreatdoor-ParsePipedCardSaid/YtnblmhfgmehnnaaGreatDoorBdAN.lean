/- Several texts as one. -/
import Derived.Test.YtnblmhfgmehnnaaGreatDoorBdAL
import Derived.Test.YtnblmhfgmehnnaaGreatDoorBdAM
import Derived.Test.YtnblmhfgmehnnaaGreatDoorBdAI
import Derived.Test.YtnblmhfgmehnnaaGreatDoorBdAJ
import Derived.Test.YtnblmhfgmehnnaaGreatDoorBdAC
/- The maker: a block's head, whatever its word. -/
namespace Go.Proofs.YtnblmhfgmehnnaaGreatDoor
open Go.RowKit Go.Lib

theorem head_range (gm : Nat) (A : Option Addr) (c : Nat) (toks : List Tok) (m : Mk) (s : ByteArray) (w : World) (h : MkAt w gm A c toks m) (hs : s.size ≤ 1000000) (hv : ScalV w) : Calls Tryz.prog 80 #[.pointer (some ⟨gm, 0, none⟩), .string ⟨#[114, 97, 110, 103, 101]⟩, .string s] w (NdPost gm A c toks (headF rangeW s.data.toList m).1 (headF rangeW s.data.toList m).2 w) := by
  rw [headF, if_neg (by decide), if_neg (by decide), if_neg (by decide)]
  simp only
  split
  · next l h3 h44 =>
    by_cases hz : (setL l).2.2 = true
    · rw [if_pos hz]
      exact range_a1 gm A c toks m s w h hs hv h3 h44 hz
    · rw [if_neg hz]
      exact range_a0 gm A c toks m s w h hs hv h3 h44 (by simpa using hz)
  · next hno =>
    have hno' : ¬ ((varL s.data.toList).2.2 = true ∧ ∃ l, (varL s.data.toList).2.1 = 44 :: l) := fun ⟨h1, l, h2⟩ => hno l h1 h2
    by_cases hz : (setL s.data.toList).2.2 = true
    · rw [if_pos hz]
      exact range_b1 gm A c toks m s w h hs hv hno' hz
    · rw [if_neg hz]
      exact range_b0 gm A c toks m s w h hs hv hno' (by simpa using hz)
/-- A block's head. -/
theorem thead (gm : Nat) (A : Option Addr) (c : Nat) (toks : List Tok) (m : Mk) (wd s : ByteArray) (w : World) (h : MkAt w gm A c toks m) (hs : s.size ≤ 1000000) (hv : ScalV w) (hw : wd.data.toList = ifW ∨ wd.data.toList = withW ∨ wd.data.toList = rangeW ∨ wd.data.toList = defineW) : Calls Tryz.prog 80 #[.pointer (some ⟨gm, 0, none⟩), .string wd, .string s] w (NdPost gm A c toks (headF wd.data.toList s.data.toList m).1 (headF wd.data.toList s.data.toList m).2 w) := by
  have e : ∀ l, wd.data.toList = l → wd = bs l := fun l h9 => by rw [← h9]
  rcases hw with h1 | h1 | h1 | h1
  · rw [h1, e _ h1]; exact head_if gm A c toks m s w h hs hv
  · rw [h1, e _ h1]; exact head_with gm A c toks m s w h hs hv
  · rw [h1, e _ h1]; exact head_range gm A c toks m s w h hs hv
  · rw [h1, e _ h1]; exact head_define gm A c toks m s w h hs hv
end Go.Proofs.YtnblmhfgmehnnaaGreatDoor

/- The maker: rows of nodes; what nodes and block answer. -/
namespace Go.Proofs.YtnblmhfgmehnnaaGreatDoor
open Go.RowKit Go.Lib

/-- One node more. -/
theorem own_snocN {w : World} {B : Nat} {S : Nat → Prop} {A : Option Addr} {c : Nat} {l : List Nd} {x : Nd} {cs : List Value} (h : OwnE eltN w B S A c l) (hx : RepN w (fun b => S b ∧ Value.ownBlock (.slice A l.length c) ≠ some b) cs x) (hB : B ≤ w.heap.size) (hl : l.length ≤ 1000000) :
    ∃ A' c' w', (Builtin.append_ #[30, 30] 30 #[.slice A l.length c, .slice (some ⟨w.heap.size, 0, none⟩) 1 1]).run Tryz.prog (w.alloc (.cells cs.toArray 64)) = .ok (.slice A' (l ++ [x]).length c') w' ∧ OwnE eltN w' B S A' c' (l ++ [x]) ∧ (w.alloc (.cells cs.toArray 64)).grownBy w' (Value.ownBlock (.slice A l.length c)) := by
  have ha : Below w.heap.size w (w.alloc (.cells cs.toArray 64)) := Below.new _ _
  exact own_append (E := eltN) (l2 := [x]) (es := cs) (ad := ⟨w.heap.size, 0, none⟩) (cc := 1) (ty := 30) (t := 30) rfl (h.keep ha) (by show (l.length + 1) * 264 ≤ _; omega) (by simp; unfold maxLen; omega) (by simp; omega) (by rw [hx.len]; rfl)
    (fun j u hu => by rw [show (⟨w.heap.size, 0, none⟩ : Addr).add j = ⟨w.heap.size, 0 + j, none⟩ from by unfold Addr.add; split <;> simp_all, Nat.zero_add, (Blk.new w 64 cs.toArray).cell]; simpa using hu)
    (fun i hi => by
      obtain rfl : i = 0 := by simpa using hi
      have h10 := hx.len
      rw [show (eltN).sz = 16 from rfl, Nat.zero_mul, List.drop_zero, List.take_of_length_le (by omega)]
      exact hx.keep ha)
theorem own_repNs {w : World} {B c : Nat} {A : Option Addr} {l : List Nd} (h : OwnE eltN w B (fun b => B ≤ b) A c l) : RepNs w (fun b => B ≤ b) A l := RepE.weak (E := eltN) h.rep (fun _ hb _ => hb.elim id id)
theorem own_roomN {w : World} {B : Nat} {S : Nat → Prop} {A : Option Addr} {c : Nat} {l : List Nd} (h : OwnE eltN w B S A c l) (hl : l.length ≤ 1000000) : Room l.length c 264 := ⟨h.len.1, h.len.2, by omega⟩
/-- Within bounds. -/
structure Mk.Big (m : Mk) : Prop where
  low : 0 ≤ m.deep
  sum : m.deep + m.rest.length ≤ 1000000
theorem Mk.Big.le {m m' : Mk} (h : m.Big) (k : Mk.Le 0 m m') : m'.Big := ⟨Int.le_trans h.low k.low, by have := h.sum; have := k.sum; omega⟩
/-- Nodes that are made, where they stop, and the maker behind them. -/
def NsPost (gm : Nat) (A : Option Addr) (c : Nat) (toks : List Tok) (st : Stop) (m' : Mk) (w : World) (e : Ending) (w' : World) : Prop :=
  ∃ a k, e = .returned (.tuple #[.slice a st.out.length k, .string (bs st.stop), .string (bs st.rest)]) ∧ OwnE eltN w' w.heap.size (fun b => w.heap.size ≤ b) a k st.out ∧ MkAt w' gm A c toks m' ∧ Bar w w' gm
/-- The texts of tokens are not long. -/
def Fit (toks : List Tok) : Prop := ∀ t ∈ toks, t.s.length ≤ 65536
def NoOk (gm : Nat) (A : Option Addr) (c : Nat) (toks : List Tok) (n : Nat) : Prop := ∀ k, k ≤ n → ∀ (m : Mk) (W : World), 2 * m.rest.length + 1 ≤ k → m.Big → MkAt W gm A c toks m → ScalV W → Calls Tryz.prog 28 #[.pointer (some ⟨gm, 0, none⟩)] W (NsPost gm A c toks (nodesF k [] m).1 (nodesF k [] m).2 W)
def BlOk (gm : Nat) (A : Option Addr) (c : Nat) (toks : List Tok) (n : Nat) : Prop := ∀ k, k ≤ n → ∀ (wd s : ByteArray) (m : Mk) (W : World), (wd.data.toList = ifW ∨ wd.data.toList = withW ∨ wd.data.toList = rangeW ∨ wd.data.toList = defineW) → s.size ≤ 1000000 → 2 * m.rest.length + 2 ≤ k → 0 ≤ m.deep → m.deep + m.rest.length < 1000000 → MkAt W gm A c toks m → ScalV W → Calls Tryz.prog 57 #[.pointer (some ⟨gm, 0, none⟩), .string wd, .string s] W (NdPost gm A c toks (blockF k wd.data.toList s.data.toList m).1 (blockF k wd.data.toList s.data.toList m).2 W)
/-- The next token's cells. -/
theorem MkAt.next {w : World} {gm : Nat} {A : Option Addr} {c : Nat} {toks : List Tok} {m : Mk} (h : MkAt w gm A c toks m) {t : Tok} {ts : List Tok} (hr : m.rest = t :: ts) :
    ∃ b o, A = some ⟨b, o, none⟩ ∧ b < gm ∧ toks.length - m.rest.length < toks.length ∧ toks[toks.length - m.rest.length]? = some t ∧ ts = toks.drop (toks.length - ts.length) ∧
      w.cell? ⟨b, o + (toks.length - m.rest.length) * 3, none⟩ = some (.bool t.act) ∧ w.cell? ⟨b, o + (toks.length - m.rest.length) * 3 + 1, none⟩ = some (.string ⟨t.s.toArray⟩) ∧ w.cell? ⟨b, o + (toks.length - m.rest.length) * 3 + 2, none⟩ = some (.int .i64 t.at_) := by
  have hle := h.le
  have hrest := h.rest
  have hl : m.rest.length = ts.length + 1 := by rw [hr]; rfl
  have hn : toks ≠ [] := fun e => by rw [e, List.length_nil] at hle; omega
  obtain ⟨b, o, e, hb, -, hc⟩ := rep_tok h.toks hn
  obtain ⟨k, hk⟩ : ∃ z, z = toks.length - m.rest.length := ⟨_, rfl⟩
  rw [← hk] at hrest ⊢
  rw [hr] at hrest
  have hkl : k < toks.length := by omega
  have ht : toks[k]? = some t := by
    have h9 : (toks.drop k)[0]? = some t := by rw [← hrest]; rfl
    rw [List.getElem?_drop, Nat.add_zero] at h9
    exact h9
  have hts : ts = toks.drop (toks.length - ts.length) := by
    have h9 : ts = (toks.drop k).drop 1 := by rw [← hrest]; rfl
    rw [List.drop_drop] at h9
    rw [show toks.length - ts.length = k + 1 from by omega]
    exact h9
  obtain ⟨c0, c1, c2⟩ := hc k t ht
  exact ⟨b, o, e, hb, hkl, ht, hts, c0, c1, c2⟩
end Go.Proofs.YtnblmhfgmehnnaaGreatDoor

