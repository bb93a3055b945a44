/- Rows of leaves that grow: how things stand in the loops of Leaves. -/
import Derived.Test.YtmdihildjblgnaaLeafE
namespace Go.Proofs.Ytmdihildjblgnaa
open Go.RowKit Go.Lib

/-- How many leaves, and how long their paths. -/
theorem leaves_wt (t : T) : t.leaves.length ≤ t.wt ∧ ∀ l ∈ t.leaves, l.1.length ≤ t.wt := by
  induction t using T.ind' with
  | h t ihl ihm =>
    have h1 := t.wt_eq
    rw [leaves_eq]
    split
    · refine ⟨by rw [List.length_singleton]; omega, fun l hl => ?_⟩
      obtain rfl : l = ([], t) := by simpa using hl
      simp
    · have : ∀ {m : List (ByteArray × T)}, (∀ p ∈ m, p.2.leaves.length ≤ p.2.wt ∧ ∀ l ∈ p.2.leaves, l.1.length ≤ p.2.wt) → (T.leavesM m).length ≤ T.wtM m ∧ ∀ l ∈ T.leavesM m, l.1.length ≤ T.wtM m + 1 := by
        intro m
        induction m with
        | nil => intro _; simp [T.leavesM]
        | cons p r ih =>
          intro h
          obtain ⟨a, b⟩ := ih fun p hp => h p (by simp [hp])
          obtain ⟨c, d⟩ := h p (by simp)
          have hp : p.2.wt ≤ T.wtP p := by obtain ⟨k, x⟩ := p; simp only [T.wtP]; omega
          rw [T.leavesM, T.wtM, leavesP_eq]
          refine ⟨by rw [List.length_append, List.length_map]; omega, fun l hl => ?_⟩
          rcases List.mem_append.1 hl with hl | hl
          · obtain ⟨l0, h0, rfl⟩ := List.mem_map.1 hl
            have := d l0 h0
            simp only [List.length_cons]; omega
          · have := b l hl; omega
      obtain ⟨a, b⟩ := this fun p hp => ihm p hp
      exact ⟨by omega, fun l hl => by have := b l hl; omega⟩
theorem leavesM_ne {m : List (ByteArray × T)} (h : m ≠ []) : T.leavesM m ≠ [] := by
  cases m with
  | nil => exact absurd rfl h
  | cons p r => rw [T.leavesM, leavesP_eq]; have := leaves_ne p.2; simp [this]
def LeavesPost (E : Elt LeafT) (S0 : Nat → Prop) (w : World) (L : List LeafT) (e : Ending) (w' : World) : Prop :=
  ∃ A c, e = .returned (.slice A L.length c) ∧ RepE E w' (fun b => S0 b ∨ w.heap.size ≤ b) A L ∧ L.length ≤ c ∧ c ≤ maxLen ∧ Below w.heap.size w w'

section
variable {ty slt : TypeId} {hund : Try.prog.underlying slt = some (.slice ty)} {hinfo : (Try.prog.info? ty).map (fun i => (i.zero, i.size, i.bytes)) = some (some (.agg #[.slice none 0 0, .int .i64 0, .bool false, .int .i64 0, .string ⟨#[]⟩, .slice none 0 0, .slice none 0 0]), 7, 112)}
/-- A leaf in a row: where it lies, cell by cell. -/
theorem leaf_at {w : World} {S : Nat → Prop} {a : Option Addr} {L : List LeafT} (h : RepE (eltL ty slt hund hinfo) w S a L) {i : Nat} (hi : i < L.length) : ∃ b o sa sc la lc ma mc, a = some ⟨b, o, none⟩ ∧ b < w.heap.size ∧
    (w.cell? ⟨b, o + i * 7, none⟩ = some (.slice sa L[i].1.length sc) ∧ w.cell? ⟨b, o + i * 7 + 1, none⟩ = some (.int .i64 L[i].2.kind) ∧ w.cell? ⟨b, o + i * 7 + 2, none⟩ = some (.bool L[i].2.bool) ∧ w.cell? ⟨b, o + i * 7 + 3, none⟩ = some (.int .i64 L[i].2.int) ∧
      w.cell? ⟨b, o + i * 7 + 4, none⟩ = some (.string L[i].2.str) ∧ w.cell? ⟨b, o + i * 7 + 5, none⟩ = some (.slice la L[i].2.list.length lc) ∧ w.cell? ⟨b, o + i * 7 + 6, none⟩ = some (.slice ma L[i].2.map.length mc)) ∧
    L[i].1.length ≤ sc ∧ sc ≤ maxLen ∧ RepS w S sa L[i].1 ∧ RepT w S (.agg #[.int .i64 L[i].2.kind, .bool L[i].2.bool, .int .i64 L[i].2.int, .string L[i].2.str, .slice la L[i].2.list.length lc, .slice ma L[i].2.map.length mc]) L[i].2 := by
  obtain ⟨b, o, cs, e, hb, hc, a2, c2, r, rfl, h1, h2, hs, hr⟩ := h i hi
  obtain ⟨la, lc, ma, mc, hv, hp⟩ := hr.inv
  have := agg_list hv
  subst this
  exact ⟨b, o, a2, c2, la, lc, ma, mc, e, hc.lt, ⟨hc 0 _ rfl, hc 1 _ rfl, hc 2 _ rfl, hc 3 _ rfl, hc 4 _ rfl, hc 5 _ rfl, hc 6 _ rfl⟩, h1, h2, hs, hr⟩

/-- How things stand in the inner loop: the pair's box, the inner leaves, the row that is made. -/
structure LvInv (E : Elt LeafT) (S0 : Nat → Prop) (w wr : World) (lo hi : Nat) (A2 : Option Addr) (L : List LeafT) (A : Option Addr) (c : Nat) (out : List LeafT) : Prop where
  rep : RepE E wr (fun b => S0 b ∨ (lo ≤ b ∧ b < hi)) A2 L
  bel : Below w.heap.size w wr
  own : OwnE E wr (w.heap.size + 1) (fun b => S0 b ∨ w.heap.size < b) A c out
  away : ∀ g, Value.ownBlock (.slice A out.length c) = some g → g < lo ∨ hi ≤ g
  low : w.heap.size < lo
  mid : lo ≤ hi
  top : hi ≤ wr.heap.size
  old : ∀ b, S0 b → b < w.heap.size
theorem LvInv.keep {E : Elt LeafT} {S0 : Nat → Prop} {w wr w3 : World} {lo hi : Nat} {A2 : Option Addr} {L : List LeafT} {A : Option Addr} {c : Nat} {out : List LeafT} (h : LvInv E S0 w wr lo hi A2 L A c out) (hb : Below wr.heap.size wr w3) : LvInv E S0 w w3 lo hi A2 L A c out :=
  ⟨h.rep.keep hb, Below.next h.bel hb, h.own.keep hb, h.away, h.low, h.mid, Nat.le_trans h.top hb.size, h.old⟩

/-- One leaf more. -/
theorem leaf_next {S0 : Nat → Prop} {w wr : World} {lo hi : Nat} {A2 : Option Addr} {L : List LeafT} {A : Option Addr} {c : Nat} {out : List LeafT} (h : LvInv (eltL ty slt hund hinfo) S0 w wr lo hi A2 L A c out)
    {x : T} {la : Option Addr} {lc : Nat} {ma : Option Addr} {mc : Nat} {sa : Option Addr} {sc : Nat} {st : List ByteArray} (hx : RepT wr (fun b => S0 b ∨ (lo ≤ b ∧ b < hi)) (.agg #[.int .i64 x.kind, .bool x.bool, .int .i64 x.int, .string x.str, .slice la x.list.length lc, .slice ma x.map.length mc]) x) (hs : RepS wr (fun b => hi ≤ b) sa st) (hso : ∀ g, Value.ownBlock (.slice A out.length c) = some g → ∀ b o, sa = some ⟨b, o, none⟩ → g ≠ b) (h1 : st.length ≤ sc) (h2 : sc ≤ maxLen) (hbig : out.length + 1 ≤ 1000000) (g : Nat) (hg : g = wr.heap.size) :
    ∃ (out2 : List LeafT) (A' : Option Addr) (c' : Nat) (w4 : World), Hid (out2 = out ++ [(st, x)]) ∧
      (Builtin.append_ #[slt, slt] slt #[.slice A out.length c, .slice (some ⟨g, 0, none⟩) 1 1]).run Try.prog (wr.alloc (.cells #[.slice sa st.length sc, .int .i64 x.kind, .bool x.bool, .int .i64 x.int, .string x.str, .slice la x.list.length lc, .slice ma x.map.length mc] ty)) = .ok (.slice A' out2.length c') w4 ∧
      LvInv (eltL ty slt hund hinfo) S0 w w4 lo hi A2 L A' c' out2 ∧ (∀ k, k < wr.heap.size → Value.ownBlock (.slice A out.length c) ≠ some k → w4.heap[k]? = wr.heap[k]?) ∧ wr.heap.size ≤ w4.heap.size ∧ (Value.ownBlock (.slice A' out2.length c') = Value.ownBlock (.slice A out.length c) ∨ ∃ k, Value.ownBlock (.slice A' out2.length c') = some k ∧ wr.heap.size ≤ k) := by
  subst hg
  have ha : Below wr.heap.size wr (wr.alloc (.cells #[.slice sa st.length sc, .int .i64 x.kind, .bool x.bool, .int .i64 x.int, .string x.str, .slice la x.list.length lc, .slice ma x.map.length mc] ty)) := Below.new _ _
  have hown : ∀ g, Value.ownBlock (.slice A out.length c) = some g → w.heap.size + 1 ≤ g ∧ g < wr.heap.size := h.own.own
  obtain ⟨A', c', w4, hrun, ho, hgr, hat⟩ := own_append_at (E := eltL ty slt hund hinfo) (l2 := [(st, x)]) (es := [.slice sa st.length sc, .int .i64 x.kind, .bool x.bool, .int .i64 x.int, .string x.str, .slice la x.list.length lc, .slice ma x.map.length mc]) (ad := ⟨wr.heap.size, 0, none⟩) (cc := 1) (ty := slt) (t := slt) rfl (h.own.keep ha) (by show (out.length + 1) * 112 ≤ _; omega) (by simp; unfold maxLen; omega) (by have := h.bel.size; have := h.low; have := h.mid; have := h.top; have := ha.size; omega) (by rfl)
    (fun j u hu => by rw [add_lit, Nat.zero_add, (Blk.new wr ty #[.slice sa st.length sc, .int .i64 x.kind, .bool x.bool, .int .i64 x.int, .string x.str, .slice la x.list.length lc, .slice ma x.map.length mc]).cell]; simpa using hu)
    (fun i hi2 => by
      obtain rfl : i = 0 := by simpa using hi2
      refine ⟨sa, sc, [.int .i64 x.kind, .bool x.bool, .int .i64 x.int, .string x.str, .slice la x.list.length lc, .slice ma x.map.length mc], rfl, h1, h2, ?_, ?_⟩
      · intro k hk
        obtain ⟨b, o, e, hs1, hlt, hc, hz⟩ := hs k hk
        exact ⟨b, o, e, ⟨.inr (by have := h.low; have := h.mid; have := h.top; omega), fun e2 => hso b e2 b o e rfl⟩, Nat.lt_of_lt_of_le hlt ha.size, (ha.cell (p := ⟨b, o + k, none⟩) hlt).trans hc, hz⟩
      · exact (hx.keep ha).weak (fun b (hb : S0 b ∨ (lo ≤ b ∧ b < hi)) _ => by
          rcases hb with hb | hb
          · exact ⟨.inl hb, fun e => by have := hown b e; have := h.old b hb; omega⟩
          · exact ⟨.inr (by have := h.low; omega), fun e => by have := h.away b e; omega⟩))
  have hfr : ∀ k, k < wr.heap.size → Value.ownBlock (.slice A out.length c) ≠ some k → w4.heap[k]? = wr.heap[k]? := fun k hk hne => (hgr.block k (Nat.lt_of_lt_of_le hk ha.size) (fun e => hne e.symm)).trans (ha.block k hk)
  have hsz : wr.heap.size ≤ w4.heap.size := Nat.le_trans ha.size hgr.size
  have hbw : Below w.heap.size w w4 := ⟨hgr.os.trans (ha.os.trans h.bel.os), hgr.tape.trans (ha.tape.trans h.bel.tape), hgr.output.trans (ha.output.trans h.bel.output), Nat.le_trans h.bel.size hsz, fun k hk => (hfr k (Nat.lt_of_lt_of_le hk h.bel.size) (fun e => by have := (hown k e).1; omega)).trans (h.bel.block k hk)⟩
  have hob : Value.ownBlock (.slice A' (out ++ [(st, x)]).length c') = Value.ownBlock (.slice A out.length c) ∨ ∃ k, Value.ownBlock (.slice A' (out ++ [(st, x)]).length c') = some k ∧ wr.heap.size ≤ k := by
    rcases hat with e | e
    · exact .inl e
    · exact .inr ⟨_, e, by have := ha.size; omega⟩
  refine ⟨out ++ [(st, x)], A', c', w4, rfl, hrun, ⟨?_, hbw, ho, ?_, h.low, h.mid, Nat.le_trans h.top hsz, h.old⟩, hfr, hsz, hob⟩
  · exact h.rep.mono (fun _ hb _ => hb) (fun b o hb hlt => World.cell?_of_block (hfr b hlt (fun e => by
      rcases hb with hb | hb
      · have := (hown b e).1; have := h.old b hb; omega
      · have := h.away b e; omega)))
  · intro k hk
    rcases hob with e | ⟨k2, e, hk2⟩
    · exact h.away k (e.symm.trans hk)
    · rw [e] at hk
      injection hk with hk
      have := h.top
      omega
end
end Go.Proofs.Ytmdihildjblgnaa
