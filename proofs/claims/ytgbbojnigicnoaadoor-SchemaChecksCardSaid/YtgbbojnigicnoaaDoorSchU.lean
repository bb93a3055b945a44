/- The reference: Check. -/
import Derived.Test.YtgbbojnigicnoaaDoorSchST
import Derived.Test.YtgbbojnigicnoaaDoorScQD
import Derived.Test.YtgbbojnigicnoaaDoorLaw
import Derived.Deep.Cut
namespace Go.Proofs.YtgbbojnigicnoaaDoor
open Go.RowKit Go.Lib
attribute [local go_sem ↓] Go.wp_at_zero Go.wp_at_succ

def RCheckPost (s t : T) (l : List ByteArray) (w : World) (Sl : Nat → Prop) (e : Ending) (w' : World) : Prop := ∃ A c, e = .returned (.slice A (t.chk s l).length c) ∧ Flaws w Sl w' A c (t.chk s l) ∧ Below w.heap.size w w'
def RCheckOk (t : T) : Prop := ∀ (s : T) (l : List ByteArray) (a : Option Addr) (ac : Nat) (sla : Option Addr) (slc : Nat) (sma : Option Addr) (smc : Nat) (la : Option Addr) (lc : Nat) (ma : Option Addr) (mc : Nat) (w : World) (Sl : Nat → Prop),
  RepT w (fun _ => True) (.agg #[.int .i64 s.kind, .bool s.bool, .int .i64 s.int, .string s.str, .slice sla s.list.length slc, .slice sma s.map.length smc]) s → RepT w (fun _ => True) (.agg #[.int .i64 t.kind, .bool t.bool, .int .i64 t.int, .string t.str, .slice la t.list.length lc, .slice ma t.map.length mc]) t → RepS w Sl a l → FineT s → FineT t → l.length + t.wt ≤ 1000000 → (t.chk s l).length ≤ 999999000 →
  Calls Tryd.prog 10 #[.agg #[.int .i64 s.kind, .bool s.bool, .int .i64 s.int, .string s.str, .slice sla s.list.length slc, .slice sma s.map.length smc], .agg #[.int .i64 t.kind, .bool t.bool, .int .i64 t.int, .string t.str, .slice la t.list.length lc, .slice ma t.map.length mc], .slice a l.length ac] w (RCheckPost s t l w Sl)
theorem Gro.base {w w' : World} {r' : Option Nat} (g : Gro w w' none r') : Below w.heap.size w w' := ⟨g.os, g.tape, g.output, g.size, fun b hb => g.block b hb (fun e => by cases e)⟩
/-- On the way: the row of flaws, in world wx. -/
structure RC (w W0 wx : World) (Sl : Nat → Prop) (A : Option Addr) (c : Nat) (N : List FlawT) : Prop where
  fl : Flaws w Sl wx A c N
  gro : Gro W0 wx none (Value.ownBlock (.slice A N.length c))
section
variable {w W0 wx wy : World} {Sl : Nat → Prop} {A A' : Option Addr} {c c' : Nat} {N N' : List FlawT}
theorem RC.keep (h : RC w W0 wx Sl A c N) (hb : Below wx.heap.size wx wy) : RC w W0 wy Sl A c N := ⟨h.fl.keep hb, h.gro.trans (Gro.of hb)⟩
theorem RC.step (h : RC w W0 wx Sl A c N) (hf : Flaws w Sl wy A' c' N') (g : Gro wx wy (Value.ownBlock (.slice A N.length c)) (Value.ownBlock (.slice A' N'.length c'))) : RC w W0 wy Sl A' c' N' := ⟨hf, h.gro.trans g⟩
theorem RC.base (h : RC w W0 wx Sl A c N) : Below W0.heap.size W0 wx := h.gro.base
theorem RC.row (h : RC w W0 wx Sl A c N) : ∀ b, Value.ownBlock (.slice A N.length c) = some b → W0.heap.size ≤ b := fun b e => by rcases h.gro.row b e with e2 | e2; cases e2; exact e2
theorem RC.fresh (h : RC w W0 wx Sl A c N) {b : Nat} (hb : wx.heap.size ≤ b) : Value.ownBlock (.slice A N.length c) ≠ some b := h.fl.ne (.inr hb)
/-- The steps that came in, as a flaw's. -/
theorem RC.came (h : RC w W0 wx Sl A c N) {B : Nat} : ∀ b, (Sl b ∧ b < w.heap.size) → b < B → StepS Sl w.heap.size b ∧ Value.ownBlock (.slice A N.length c) ≠ some b := fun _ hb _ => ⟨.inl hb, h.fl.ne (.inl hb.2)⟩
/-- Steps that are made now, as a flaw's. -/
theorem RC.made (h : RC w W0 wx Sl A c N) (hw : w.heap.size ≤ W0.heap.size) {S2 : Nat → Prop} (h2 : ∀ b, S2 b → wx.heap.size ≤ b) {B : Nat} : ∀ b, S2 b → b < B → StepS Sl w.heap.size b ∧ Value.ownBlock (.slice A N.length c) ≠ some b := fun b hb _ =>
  ⟨.inr (by have h3 := h2 b hb; have h4 := h.base.size; omega), h.fresh (h2 b hb)⟩
end
/-- A value's box. -/
structure RBox (W0 wx : World) (n : Nat) (x : T) (la : Option Addr) (lc : Nat) (ma : Option Addr) (mc : Nat) : Prop where
  blk : Blk wx n 25 #[.int .i64 x.kind, .bool x.bool, .int .i64 x.int, .string x.str, .slice la x.list.length lc, .slice ma x.map.length mc]
  rep : RepT wx (fun b => b < W0.heap.size) (.agg #[.int .i64 x.kind, .bool x.bool, .int .i64 x.int, .string x.str, .slice la x.list.length lc, .slice ma x.map.length mc]) x
section
variable {W0 w1 w2 : World} {n : Nat} {x : T} {la : Option Addr} {lc : Nat} {ma : Option Addr} {mc : Nat} {r r' : Option Nat}
theorem RBox.gro (h : RBox W0 w1 n x la lc ma mc) (g : Gro w1 w2 r r') (hn : r ≠ some n) (hr : ∀ b, r = some b → W0.heap.size ≤ b) : RBox W0 w2 n x la lc ma mc :=
  ⟨g.blk h.blk hn, h.rep.mono (fun _ h _ => h) (fun b o hb hlt => World.cell?_of_block (a := ⟨b, o, none⟩) (g.block b hlt (fun e => by have := hr b e; omega)))⟩
theorem RBox.keep (h : RBox W0 w1 n x la lc ma mc) (hb : Below w1.heap.size w1 w2) : RBox W0 w2 n x la lc ma mc := ⟨h.blk.keep hb, h.rep.keep hb⟩
theorem RBox.any (h : RBox W0 w1 n x la lc ma mc) : RepT w1 (fun _ => True) (.agg #[.int .i64 x.kind, .bool x.bool, .int .i64 x.int, .string x.str, .slice la x.list.length lc, .slice ma x.map.length mc]) x := h.rep.weak (fun _ _ _ => trivial)
end
theorem RepT.low {w : World} {v : Value} {t : T} (h : RepT w (fun _ => True) v t) : RepT w (fun b => b < w.heap.size) v t := h.mono (fun _ _ h => h) (fun _ _ _ _ => rfl)
theorem RepT.to {w W0 : World} {v : Value} {t : T} (h : RepT w (fun _ => True) v t) (hb : Below w.heap.size w W0) : RepT W0 (fun b => b < W0.heap.size) v t := (h.keep hb).low
theorem look_partsF {t : T} (h : t.parts = 0) (k : ByteArray) : look t.map k = getT t k := by
  unfold getT
  by_cases h5 : t.kind = 5
  · rw [if_pos h5]
  · rw [if_neg h5]
    have hb := (parts_iff.1 h).1
    simp [T.bareB, h5] at hb
    rw [hb.2]; rfl
theorem rget25 {t : T} (hp : t.parts = 0) (S : Nat → Prop) (key : ByteArray) (v : Value) (w : World) (h : RepT w S v t) : Calls Tryd.prog 21 #[v, .string key] w (GotRS S w (getT t key).isSome ((getT t key).getD T.zero)) := by
  have := rget_N S t key v w h
  rw [look_partsF hp] at this
  exact this
/-- A row of one flaw. -/
theorem flaw_one {w0 w : World} {Sl : Nat → Prop} {a : Option Addr} {ac : Nat} {l : List ByteArray} (k : Int) (hl : RepS w (fun b => Sl b ∧ b < w0.heap.size) a l) (hB : w0.heap.size ≤ w.heap.size) :
    Flaws w0 Sl (w.alloc (.cells #[.int .i64 k, .slice a l.length ac] 54)) (some ⟨w.heap.size, 0, none⟩) 1 [(k, l)] := by
  obtain ⟨xs, hx⟩ : ∃ xs : List Value, xs = [.int .i64 k, .slice a l.length ac] := ⟨_, rfl⟩
  refine ⟨xs, ⟨by rw [hx]; rfl, .inr ⟨w.heap.size, 1, #[.int .i64 k, .slice a l.length ac], rfl, hB, Blk.new _ _ _, Nat.le_refl _, by unfold maxLen; omega, rfl, by rw [hx]; rfl⟩⟩, by rw [hx]; intro u hu; simp at hu; rcases hu with rfl | rfl <;> rfl, fun i hi => ?_⟩
  obtain rfl : i = 0 := by simpa using hi
  refine ⟨a, ac, by rw [hx]; rfl, hl.mono (fun b hb hlt => ⟨.inl hb, fun e => ?_⟩) (fun b o _ hlt => (Below.new w _).cell hlt)⟩
  simp [Value.ownBlock] at e
  omega

/-- A value in a box that a region makes ahead of a call or behind it. -/
structure BoxF (S : Nat → Prop) (W0 W' : World) (g : Nat) (x : T) (la : Option Addr) (lc : Nat) (ma : Option Addr) (mc : Nat) : Prop where
  bel : Below W0.heap.size W0 W'
  low : W0.heap.size ≤ g
  box : Blk W' g 25 #[.int .i64 x.kind, .bool x.bool, .int .i64 x.int, .string x.str, .slice la x.list.length lc, .slice ma x.map.length mc]
  rep : RepT W' S (.agg #[.int .i64 x.kind, .bool x.bool, .int .i64 x.int, .string x.str, .slice la x.list.length lc, .slice ma x.map.length mc]) x
theorem BoxF.ahead {S : Nat → Prop} {W0 w1 : World} {x : T} {la : Option Addr} {lc : Nat} {ma : Option Addr} {mc : Nat} (hS : ∀ b, S b → b < W0.heap.size) (hb : Below (W0.alloc (.cells #[.int .i64 0, .bool false, .int .i64 0, .string ⟨#[]⟩, .slice none 0 0, .slice none 0 0] 25)).drew.heap.size (W0.alloc (.cells #[.int .i64 0, .bool false, .int .i64 0, .string ⟨#[]⟩, .slice none 0 0, .slice none 0 0] 25)).drew w1) (hr : RepT w1 S (.agg #[.int .i64 x.kind, .bool x.bool, .int .i64 x.int, .string x.str, .slice la x.list.length lc, .slice ma x.map.length mc]) x) :
    BoxF S W0 (set6 w1 W0.heap.size 0 (.int .i64 x.kind) (.bool x.bool) (.int .i64 x.int) (.string x.str) (.slice la x.list.length lc) (.slice ma x.map.length mc)) W0.heap.size x la lc ma mc := by
  have h0 : Below W0.heap.size W0 w1 := Below.next ((Below.new _ _).drew) hb
  have hn : Blk w1 W0.heap.size 25 #[.int .i64 0, .bool false, .int .i64 0, .string ⟨#[]⟩, .slice none 0 0, .slice none 0 0] := ((Blk.new W0 25 #[.int .i64 0, .bool false, .int .i64 0, .string ⟨#[]⟩, .slice none 0 0, .slice none 0 0]).drew).keep hb
  refine ⟨set6_below h0 (Nat.le_refl _), Nat.le_refl _, (((((hn.set_ 0 _).set_ 1 _).set_ 2 _).set_ 3 _).set_ 4 _).set_ 5 _, ?_⟩
  exact hr.mono (fun b hb _ => hb) (fun b o hb _ => World.cell?_of_block (w := w1) (set6_heap (o := 0) (show b ≠ W0.heap.size by have := hS b hb; omega)))
theorem BoxF.behind {S : Nat → Prop} {W0 w1 : World} {x : T} {la : Option Addr} {lc : Nat} {ma : Option Addr} {mc : Nat} (hb : Below W0.drew.heap.size W0.drew w1) (hr : RepT w1 S (.agg #[.int .i64 x.kind, .bool x.bool, .int .i64 x.int, .string x.str, .slice la x.list.length lc, .slice ma x.map.length mc]) x) : BoxF S W0 (w1.alloc (.cells #[.int .i64 x.kind, .bool x.bool, .int .i64 x.int, .string x.str, .slice la x.list.length lc, .slice ma x.map.length mc] 25)) w1.heap.size x la lc ma mc := by
  have h0 : Below W0.heap.size W0 w1 := Below.next ((Below.refl _ _).drew) hb
  exact ⟨Below.next h0 (Below.new _ _), h0.size, Blk.new _ _ _, hr.keep (Below.new _ _)⟩
theorem rsame25 {y t : T} (hy : y.parts = 0) (ht : t.parts = 0) (w : World) (S S' : Nat → Prop) (v v' : Value) (h : RepT w S v y) (h' : RepT w S' v' t) : Calls Tryd.prog 22 #[v, v'] w fun e w' => e = .returned (.bool (decide (T.cmp y t = 0))) ∧ Below w.heap.size w w' := by
  by_cases he : y = t
  · have hc : T.cmp y t = 0 := by rw [he]; exact (cmp_1 t).refl
    rw [decide_eq_true hc]
    exact rsame_true he w S S' v v' h h'
  · have hc : ¬ T.cmp y t = 0 := fun e => he (cmp_is hy ht e)
    rw [decide_eq_false hc]
    exact rsame_false he w S S' v v' h h'
theorem chkL_none : ∀ (xs : List T) (i : Nat) (l : List ByteArray), T.chkL xs none i l = []
  | [], _, _ => by rw [T.chkL]
  | x :: r, i, l => by rw [chkL_cons, chkL_none r]; rfl
theorem itoaB_of {dv : ByteArray} {q : Nat} (h : dv.data.toList = Lib.itoa (q : Int)) : dv = itoaB q := by
  unfold itoaB
  rw [← h]
/-- What stands at the beginning. -/
structure RBase (w W0 : World) (Sl : Nat → Prop) (a : Option Addr) (l : List ByteArray) (n5 : Nat) (s : T) (sla : Option Addr) (slc : Nat) (sma : Option Addr) (smc : Nat) (n6 : Nat) (t : T) (la : Option Addr) (lc : Nat) (ma : Option Addr) (mc : Nat) : Prop where
  b0 : Below w.heap.size w W0
  l0 : RepS W0 (fun b => Sl b ∧ b < w.heap.size) a l
  s0 : RBox W0 W0 n5 s sla slc sma smc
  t0 : RBox W0 W0 n6 t la lc ma mc
  ps : s.parts = 0
  pt : t.parts = 0
def stmtAt : Nat → Code → Code
  | 0, .seq a _ => a
  | n + 1, .seq _ b => stmtAt n b
  | 0, c => c
  | _ + 1, _ => .skip
/-- A statement of Check. -/
noncomputable def chk25 (n : Nat) : Code := (Tryd.f10.body.map (stmtAt n)).getD .skip
set_option maxRecDepth 100000 in
set_option maxHeartbeats 16000000 in
theorem rc_size {t s : T} {l : List ByteArray} {a : Option Addr} {ac : Nat} {sla : Option Addr} {slc : Nat} {sma : Option Addr} {smc : Nat} {la : Option Addr} {lc : Nat} {ma : Option Addr} {mc : Nat} {w W0 wc : World} {Sl : Nat → Prop} {n5 n6 : Nat} {K9 : Act → World → Prop} {post : Ending → World → Prop}  {u0 u1 u5 u6 u7 u8 u9 u10 u11 u12 u13 u14 u15 u16 u17 u18 u19 u20 u21 u22 u23 u24 u25 u26 u27 u28 u29 u30 u31 u32 u33 u34 u35 u36 u37 u38 u39 u40 u41 u42 u43 u44 u45 u46 u47 u48 u49 u50 u51 u52 u53 u54 u55 u56 u57 u58 u59 u60 u61 u62 u63 u64 u65 u66 u67 u68 u69 u70 u71 u72 u73 u74 u75 u76 u77 u78 u79 u80 u81 u82 u83 u84 u85 u86 u87 u88 u89 u90 u91 u92 u93 u94 u95 u96 u97 u98 u99 u100 u101 u102 u103 u104 u105 u106 u107 u108 u109 u110 u111 u112 u113 u114 u115 u116 u117 u118 u119 u120 u121 u122 u123 u124 u125 u126 u127 u128 u129 u130 u131 u132 u133 u134 u135 u136 u137 u138 u139 u140 u141 u142 u143 u144 u145 u146 u147 u148 u149 u150 u151 u152 u153 u154 u155 u156 u157 u158 u159 u160 u161 u162 u163 u164 u165 u166 u167 u168 u169 u170 u171 u172 u173 u174 u175 u176 u177 u178 u179 u180 u181 u182 u183 u184 u185 u186 u187 u188 u189 u190 u191 u192 u193 u194 u195 u196 u197 u198 u199 u200 u201 u202 u203 u204 u205 u206 u207 u208 u209 u210 u211 u212 u213 u214 u215 u216 u217 u218 u219 u220 u221 u222 u223 u224 u225 u226 u227 u228 u229 u230 u231 u232 u233 u234 u235 u236 u237 u238 u239 u240 u241 u242 u243 u244 u245 u246 u247 u248 u249 u250 u251 u252 u253 u254 u255 u256 u257 u258 u259 u260 u261 u262 u263 u264 u265 u266 u267 u268 u269 u270 u271 u272 u273 u274 : Value} (hbase : RBase w W0 Sl a l n5 s sla slc sma smc n6 t la lc ma mc) (HX : Hid (Below W0.heap.size W0 wc))
    (hQ : ∀ (wx : World) (v56 v57 v58 v59 v60 v61 v62 v63 v64 v65 v66 : Value), Hid (Below W0.heap.size W0 wx) → K9 ⟨#[u0, u1, .slice a l.length ac, .pointer (some ⟨n5, 0, none⟩), .pointer (some ⟨n6, 0, none⟩), u5, u6, u7, u8, u9, .int .i64 ((t.str.size : Int) + (t.list.length : Int) + (t.map.length : Int)), u11, u12, u13, u14, u15, u16, u17, u18, u19, u20, u21, u22, u23, u24, u25, u26, u27, u28, u29, u30, u31, u32, u33, u34, u35, u36, u37, u38, u39, u40, u41, u42, u43, u44, u45, u46, u47, u48, u49, u50, u51, u52, u53, u54, u55, v56, v57, v58, v59, v60, v61, v62, v63, v64, v65, v66, u67, u68, u69, u70, u71, u72, u73, u74, u75, u76, u77, u78, u79, u80, u81, u82, u83, u84, u85, u86, u87, u88, u89, u90, u91, u92, u93, u94, u95, u96, u97, u98, u99, u100, u101, u102, u103, u104, u105, u106, u107, u108, u109, u110, u111, u112, u113, u114, u115, u116, u117, u118, u119, u120, u121, u122, u123, u124, u125, u126, u127, u128, u129, u130, u131, u132, u133, u134, u135, u136, u137, u138, u139, u140, u141, u142, u143, u144, u145, u146, u147, u148, u149, u150, u151, u152, u153, u154, u155, u156, u157, u158, u159, u160, u161, u162, u163, u164, u165, u166, u167, u168, u169, u170, u171, u172, u173, u174, u175, u176, u177, u178, u179, u180, u181, u182, u183, u184, u185, u186, u187, u188, u189, u190, u191, u192, u193, u194, u195, u196, u197, u198, u199, u200, u201, u202, u203, u204, u205, u206, u207, u208, u209, u210, u211, u212, u213, u214, u215, u216, u217, u218, u219, u220, u221, u222, u223, u224, u225, u226, u227, u228, u229, u230, u231, u232, u233, u234, u235, u236, u237, u238, u239, u240, u241, u242, u243, u244, u245, u246, u247, u248, u249, u250, u251, u252, u253, u254, u255, u256, u257, u258, u259, u260, u261, u262, u263, u264, u265, u266, u267, u268, u269, u270, u271, u272, u273, u274], []⟩ wx) :
    Code.wp Tryd.prog (chk25 3) (Exit.then K9 (bodyPost Tryd.prog Tryd.f10 post)) ⟨#[u0, u1, .slice a l.length ac, .pointer (some ⟨n5, 0, none⟩), .pointer (some ⟨n6, 0, none⟩), u5, u6, u7, u8, u9, u10, u11, u12, u13, u14, u15, u16, u17, u18, u19, u20, u21, u22, u23, u24, u25, u26, u27, u28, u29, u30, u31, u32, u33, u34, u35, u36, u37, u38, u39, u40, u41, u42, u43, u44, u45, u46, u47, u48, u49, u50, u51, u52, u53, u54, u55, u56, u57, u58, u59, u60, u61, u62, u63, u64, u65, u66, u67, u68, u69, u70, u71, u72, u73, u74, u75, u76, u77, u78, u79, u80, u81, u82, u83, u84, u85, u86, u87, u88, u89, u90, u91, u92, u93, u94, u95, u96, u97, u98, u99, u100, u101, u102, u103, u104, u105, u106, u107, u108, u109, u110, u111, u112, u113, u114, u115, u116, u117, u118, u119, u120, u121, u122, u123, u124, u125, u126, u127, u128, u129, u130, u131, u132, u133, u134, u135, u136, u137, u138, u139, u140, u141, u142, u143, u144, u145, u146, u147, u148, u149, u150, u151, u152, u153, u154, u155, u156, u157, u158, u159, u160, u161, u162, u163, u164, u165, u166, u167, u168, u169, u170, u171, u172, u173, u174, u175, u176, u177, u178, u179, u180, u181, u182, u183, u184, u185, u186, u187, u188, u189, u190, u191, u192, u193, u194, u195, u196, u197, u198, u199, u200, u201, u202, u203, u204, u205, u206, u207, u208, u209, u210, u211, u212, u213, u214, u215, u216, u217, u218, u219, u220, u221, u222, u223, u224, u225, u226, u227, u228, u229, u230, u231, u232, u233, u234, u235, u236, u237, u238, u239, u240, u241, u242, u243, u244, u245, u246, u247, u248, u249, u250, u251, u252, u253, u254, u255, u256, u257, u258, u259, u260, u261, u262, u263, u264, u265, u266, u267, u268, u269, u270, u271, u272, u273, u274], []⟩ wc := by
  have HQ := Lib.hid hQ
  obtain ⟨hB0, hL0, hS0, hT0, hps, hpt⟩ := hbase
  have HB0 := Lib.hid hB0; have HL0 := Lib.hid hL0; have HS0 := Lib.hid hS0; have HT0 := Lib.hid hT0
  clear hQ hB0 hL0 hS0 hT0
  conv => arg 2; whnf
  have HT1 := Lib.hid (HT0.out.keep HX.out)
  have k2 := HT1.out.blk.cell; have l2 := HT1.out.blk.lt
  have hpt2 := HT1.out.rep.lay
  have hw1 : IntKind.i64.wrap ((t.str.size : Int) + (t.list.length : Int)) = (t.str.size : Int) + (t.list.length : Int) := wrap_fit (by have := hpt2.2.2.1; omega) (by have := hpt2.2.2.1; have := hpt2.2.2.2.1; omega)
  have hw2 : IntKind.i64.wrap ((t.str.size : Int) + (t.list.length : Int) + (t.map.length : Int)) = (t.str.size : Int) + (t.list.length : Int) + (t.map.length : Int) := wrap_fit (by have := hpt2.2.2.1; omega) (by have := hpt2.2.2.1; have := hpt2.2.2.2.1; have := hpt2.2.2.2.2.1; omega)
  clear hpt2
  go_wp2_with fail
  exact HQ.out _ _ _ _ _ _ _ _ _ _ _ _ (HX)

set_option maxRecDepth 100000 in
set_option maxHeartbeats 16000000 in
theorem rc_size2 {t s : T} {l : List ByteArray} {a : Option Addr} {ac : Nat} {sla : Option Addr} {slc : Nat} {sma : Option Addr} {smc : Nat} {la : Option Addr} {lc : Nat} {ma : Option Addr} {mc : Nat} {w W0 wc : World} {Sl : Nat → Prop} {n5 n6 : Nat} {K9 : Act → World → Prop} {post : Ending → World → Prop}  {u0 u1 u5 u6 u7 u8 u9 u11 u12 u13 u14 u15 u16 u17 u18 u19 u20 u21 u22 u23 u24 u25 u26 u27 u28 u29 u30 u31 u32 u33 u34 u35 u36 u37 u38 u39 u40 u41 u42 u43 u44 u45 u46 u47 u48 u49 u50 u51 u52 u53 u54 u55 u56 u57 u58 u59 u60 u61 u62 u63 u64 u65 u66 u67 u68 u69 u70 u71 u72 u73 u74 u75 u76 u77 u78 u79 u80 u81 u82 u83 u84 u85 u86 u87 u88 u89 u90 u91 u92 u93 u94 u95 u96 u97 u98 u99 u100 u101 u102 u103 u104 u105 u106 u107 u108 u109 u110 u111 u112 u113 u114 u115 u116 u117 u118 u119 u120 u121 u122 u123 u124 u125 u126 u127 u128 u129 u130 u131 u132 u133 u134 u135 u136 u137 u138 u139 u140 u141 u142 u143 u144 u145 u146 u147 u148 u149 u150 u151 u152 u153 u154 u155 u156 u157 u158 u159 u160 u161 u162 u163 u164 u165 u166 u167 u168 u169 u170 u171 u172 u173 u174 u175 u176 u177 u178 u179 u180 u181 u182 u183 u184 u185 u186 u187 u188 u189 u190 u191 u192 u193 u194 u195 u196 u197 u198 u199 u200 u201 u202 u203 u204 u205 u206 u207 u208 u209 u210 u211 u212 u213 u214 u215 u216 u217 u218 u219 u220 u221 u222 u223 u224 u225 u226 u227 u228 u229 u230 u231 u232 u233 u234 u235 u236 u237 u238 u239 u240 u241 u242 u243 u244 u245 u246 u247 u248 u249 u250 u251 u252 u253 u254 u255 u256 u257 u258 u259 u260 u261 u262 u263 u264 u265 u266 u267 u268 u269 u270 u271 u272 u273 u274 : Value} (hbase : RBase w W0 Sl a l n5 s sla slc sma smc n6 t la lc ma mc) (HX : Hid (Below W0.heap.size W0 wc))
    (hQ : ∀ (wx : World) (v67 v68 v69 v70 v71 : Value), Hid (Below W0.heap.size W0 wx) → K9 ⟨#[u0, u1, .slice a l.length ac, .pointer (some ⟨n5, 0, none⟩), .pointer (some ⟨n6, 0, none⟩), u5, u6, u7, u8, u9, .int .i64 (sizeT t), u11, u12, u13, u14, u15, u16, u17, u18, u19, u20, u21, u22, u23, u24, u25, u26, u27, u28, u29, u30, u31, u32, u33, u34, u35, u36, u37, u38, u39, u40, u41, u42, u43, u44, u45, u46, u47, u48, u49, u50, u51, u52, u53, u54, u55, u56, u57, u58, u59, u60, u61, u62, u63, u64, u65, u66, v67, v68, v69, v70, v71, u72, u73, u74, u75, u76, u77, u78, u79, u80, u81, u82, u83, u84, u85, u86, u87, u88, u89, u90, u91, u92, u93, u94, u95, u96, u97, u98, u99, u100, u101, u102, u103, u104, u105, u106, u107, u108, u109, u110, u111, u112, u113, u114, u115, u116, u117, u118, u119, u120, u121, u122, u123, u124, u125, u126, u127, u128, u129, u130, u131, u132, u133, u134, u135, u136, u137, u138, u139, u140, u141, u142, u143, u144, u145, u146, u147, u148, u149, u150, u151, u152, u153, u154, u155, u156, u157, u158, u159, u160, u161, u162, u163, u164, u165, u166, u167, u168, u169, u170, u171, u172, u173, u174, u175, u176, u177, u178, u179, u180, u181, u182, u183, u184, u185, u186, u187, u188, u189, u190, u191, u192, u193, u194, u195, u196, u197, u198, u199, u200, u201, u202, u203, u204, u205, u206, u207, u208, u209, u210, u211, u212, u213, u214, u215, u216, u217, u218, u219, u220, u221, u222, u223, u224, u225, u226, u227, u228, u229, u230, u231, u232, u233, u234, u235, u236, u237, u238, u239, u240, u241, u242, u243, u244, u245, u246, u247, u248, u249, u250, u251, u252, u253, u254, u255, u256, u257, u258, u259, u260, u261, u262, u263, u264, u265, u266, u267, u268, u269, u270, u271, u272, u273, u274], []⟩ wx) :
    Code.wp Tryd.prog (chk25 4) (Exit.then K9 (bodyPost Tryd.prog Tryd.f10 post)) ⟨#[u0, u1, .slice a l.length ac, .pointer (some ⟨n5, 0, none⟩), .pointer (some ⟨n6, 0, none⟩), u5, u6, u7, u8, u9, .int .i64 ((t.str.size : Int) + (t.list.length : Int) + (t.map.length : Int)), u11, u12, u13, u14, u15, u16, u17, u18, u19, u20, u21, u22, u23, u24, u25, u26, u27, u28, u29, u30, u31, u32, u33, u34, u35, u36, u37, u38, u39, u40, u41, u42, u43, u44, u45, u46, u47, u48, u49, u50, u51, u52, u53, u54, u55, u56, u57, u58, u59, u60, u61, u62, u63, u64, u65, u66, u67, u68, u69, u70, u71, u72, u73, u74, u75, u76, u77, u78, u79, u80, u81, u82, u83, u84, u85, u86, u87, u88, u89, u90, u91, u92, u93, u94, u95, u96, u97, u98, u99, u100, u101, u102, u103, u104, u105, u106, u107, u108, u109, u110, u111, u112, u113, u114, u115, u116, u117, u118, u119, u120, u121, u122, u123, u124, u125, u126, u127, u128, u129, u130, u131, u132, u133, u134, u135, u136, u137, u138, u139, u140, u141, u142, u143, u144, u145, u146, u147, u148, u149, u150, u151, u152, u153, u154, u155, u156, u157, u158, u159, u160, u161, u162, u163, u164, u165, u166, u167, u168, u169, u170, u171, u172, u173, u174, u175, u176, u177, u178, u179, u180, u181, u182, u183, u184, u185, u186, u187, u188, u189, u190, u191, u192, u193, u194, u195, u196, u197, u198, u199, u200, u201, u202, u203, u204, u205, u206, u207, u208, u209, u210, u211, u212, u213, u214, u215, u216, u217, u218, u219, u220, u221, u222, u223, u224, u225, u226, u227, u228, u229, u230, u231, u232, u233, u234, u235, u236, u237, u238, u239, u240, u241, u242, u243, u244, u245, u246, u247, u248, u249, u250, u251, u252, u253, u254, u255, u256, u257, u258, u259, u260, u261, u262, u263, u264, u265, u266, u267, u268, u269, u270, u271, u272, u273, u274], []⟩ wc := by
  have HQ := Lib.hid hQ
  obtain ⟨hB0, hL0, hS0, hT0, hps, hpt⟩ := hbase
  have HB0 := Lib.hid hB0; have HL0 := Lib.hid hL0; have HS0 := Lib.hid hS0; have HT0 := Lib.hid hT0
  clear hQ hB0 hL0 hS0 hT0
  conv => arg 2; whnf
  have HT1 := Lib.hid (HT0.out.keep HX.out)
  have k2 := HT1.out.blk.cell; have l2 := HT1.out.blk.lt
  by_cases h2 : t.kind = 2
  · have g2 : (t.kind == 2) = true := by rw [h2]; rfl
    have HZ := Lib.hid (show sizeT t = t.int from by unfold sizeT; rw [if_pos h2])
    clear h2
    go_wp2_with fail
    rw [← HZ.out]
    exact HQ.out _ _ _ _ _ _ (HX)
  · have g2 : (t.kind == 2) = false := beq_eq_false_iff_ne.2 h2
    have HZ := Lib.hid (show sizeT t = (t.str.size : Int) + (t.list.length : Int) + (t.map.length : Int) from by unfold sizeT; rw [if_neg h2]; omega)
    clear h2
    go_wp2_with fail
    rw [← HZ.out]
    exact HQ.out _ _ _ _ _ _ (HX)

set_option maxRecDepth 100000 in
set_option maxHeartbeats 16000000 in
theorem rc_least {t s : T} {l : List ByteArray} {a : Option Addr} {ac : Nat} {sla : Option Addr} {slc : Nat} {sma : Option Addr} {smc : Nat} {la : Option Addr} {lc : Nat} {ma : Option Addr} {mc : Nat} {w W0 wc : World} {Sl : Nat → Prop} {n5 n6 : Nat} {K9 : Act → World → Prop} {post : Ending → World → Prop} {A : Option Addr} {c : Nat} {N : List FlawT}  {u0 u1 u5 u6 u8 u9 u11 u12 u13 u14 u15 u16 u17 u18 u19 u20 u21 u22 u23 u24 u25 u26 u27 u28 u29 u30 u31 u32 u33 u34 u35 u36 u37 u38 u39 u40 u41 u42 u43 u44 u45 u46 u47 u48 u49 u50 u51 u52 u53 u54 u55 u56 u57 u58 u59 u60 u61 u62 u63 u64 u65 u66 u67 u68 u69 u70 u71 u72 u73 u74 u75 u76 u77 u78 u79 u80 u81 u82 u83 u84 u85 u86 u87 u88 u89 u90 u91 u92 u93 u94 u95 u96 u97 u98 u99 u100 u101 u102 u103 u104 u105 u106 u107 u108 u109 u110 u111 u112 u113 u114 u115 u116 u117 u118 u119 u120 u121 u122 u123 u124 u125 u126 u127 u128 u129 u130 u131 u132 u133 u134 u135 u136 u137 u138 u139 u140 u141 u142 u143 u144 u145 u146 u147 u148 u149 u150 u151 u152 u153 u154 u155 u156 u157 u158 u159 u160 u161 u162 u163 u164 u165 u166 u167 u168 u169 u170 u171 u172 u173 u174 u175 u176 u177 u178 u179 u180 u181 u182 u183 u184 u185 u186 u187 u188 u189 u190 u191 u192 u193 u194 u195 u196 u197 u198 u199 u200 u201 u202 u203 u204 u205 u206 u207 u208 u209 u210 u211 u212 u213 u214 u215 u216 u217 u218 u219 u220 u221 u222 u223 u224 u225 u226 u227 u228 u229 u230 u231 u232 u233 u234 u235 u236 u237 u238 u239 u240 u241 u242 u243 u244 u245 u246 u247 u248 u249 u250 u251 u252 u253 u254 u255 u256 u257 u258 u259 u260 u261 u262 u263 u264 u265 u266 u267 u268 u269 u270 u271 u272 u273 u274 : Value} (hbase : RBase w W0 Sl a l n5 s sla slc sma smc n6 t la lc ma mc) (HC : Hid (RC w W0 wc Sl A c N)) (hN : N.length ≤ 1000)
    (hQ : ∀ (A' : Option Addr) (c' : Nat) (wx : World) (v11 v12 v72 v73 v74 v75 v76 v77 v78 v79 v80 v81 v82 v83 v84 v85 v86 v87 v88 v89 v90 v91 v92 v93 : Value), Hid (RC w W0 wx Sl A' c' (N ++ leastF s t l)) → K9 ⟨#[u0, u1, .slice a l.length ac, .pointer (some ⟨n5, 0, none⟩), .pointer (some ⟨n6, 0, none⟩), u5, u6, .slice A' (N ++ leastF s t l).length c', u8, u9, .int .i64 (sizeT t), v11, v12, u13, u14, u15, u16, u17, u18, u19, u20, u21, u22, u23, u24, u25, u26, u27, u28, u29, u30, u31, u32, u33, u34, u35, u36, u37, u38, u39, u40, u41, u42, u43, u44, u45, u46, u47, u48, u49, u50, u51, u52, u53, u54, u55, u56, u57, u58, u59, u60, u61, u62, u63, u64, u65, u66, u67, u68, u69, u70, u71, v72, v73, v74, v75, v76, v77, v78, v79, v80, v81, v82, v83, v84, v85, v86, v87, v88, v89, v90, v91, v92, v93, u94, u95, u96, u97, u98, u99, u100, u101, u102, u103, u104, u105, u106, u107, u108, u109, u110, u111, u112, u113, u114, u115, u116, u117, u118, u119, u120, u121, u122, u123, u124, u125, u126, u127, u128, u129, u130, u131, u132, u133, u134, u135, u136, u137, u138, u139, u140, u141, u142, u143, u144, u145, u146, u147, u148, u149, u150, u151, u152, u153, u154, u155, u156, u157, u158, u159, u160, u161, u162, u163, u164, u165, u166, u167, u168, u169, u170, u171, u172, u173, u174, u175, u176, u177, u178, u179, u180, u181, u182, u183, u184, u185, u186, u187, u188, u189, u190, u191, u192, u193, u194, u195, u196, u197, u198, u199, u200, u201, u202, u203, u204, u205, u206, u207, u208, u209, u210, u211, u212, u213, u214, u215, u216, u217, u218, u219, u220, u221, u222, u223, u224, u225, u226, u227, u228, u229, u230, u231, u232, u233, u234, u235, u236, u237, u238, u239, u240, u241, u242, u243, u244, u245, u246, u247, u248, u249, u250, u251, u252, u253, u254, u255, u256, u257, u258, u259, u260, u261, u262, u263, u264, u265, u266, u267, u268, u269, u270, u271, u272, u273, u274], []⟩ wx) :
    Code.wp Tryd.prog (chk25 5) (Exit.then K9 (bodyPost Tryd.prog Tryd.f10 post)) ⟨#[u0, u1, .slice a l.length ac, .pointer (some ⟨n5, 0, none⟩), .pointer (some ⟨n6, 0, none⟩), u5, u6, .slice A N.length c, u8, u9, .int .i64 (sizeT t), u11, u12, u13, u14, u15, u16, u17, u18, u19, u20, u21, u22, u23, u24, u25, u26, u27, u28, u29, u30, u31, u32, u33, u34, u35, u36, u37, u38, u39, u40, u41, u42, u43, u44, u45, u46, u47, u48, u49, u50, u51, u52, u53, u54, u55, u56, u57, u58, u59, u60, u61, u62, u63, u64, u65, u66, u67, u68, u69, u70, u71, u72, u73, u74, u75, u76, u77, u78, u79, u80, u81, u82, u83, u84, u85, u86, u87, u88, u89, u90, u91, u92, u93, u94, u95, u96, u97, u98, u99, u100, u101, u102, u103, u104, u105, u106, u107, u108, u109, u110, u111, u112, u113, u114, u115, u116, u117, u118, u119, u120, u121, u122, u123, u124, u125, u126, u127, u128, u129, u130, u131, u132, u133, u134, u135, u136, u137, u138, u139, u140, u141, u142, u143, u144, u145, u146, u147, u148, u149, u150, u151, u152, u153, u154, u155, u156, u157, u158, u159, u160, u161, u162, u163, u164, u165, u166, u167, u168, u169, u170, u171, u172, u173, u174, u175, u176, u177, u178, u179, u180, u181, u182, u183, u184, u185, u186, u187, u188, u189, u190, u191, u192, u193, u194, u195, u196, u197, u198, u199, u200, u201, u202, u203, u204, u205, u206, u207, u208, u209, u210, u211, u212, u213, u214, u215, u216, u217, u218, u219, u220, u221, u222, u223, u224, u225, u226, u227, u228, u229, u230, u231, u232, u233, u234, u235, u236, u237, u238, u239, u240, u241, u242, u243, u244, u245, u246, u247, u248, u249, u250, u251, u252, u253, u254, u255, u256, u257, u258, u259, u260, u261, u262, u263, u264, u265, u266, u267, u268, u269, u270, u271, u272, u273, u274], []⟩ wc := by
  have HQ := Lib.hid hQ
  obtain ⟨hB0, hL0, hS0, hT0, hps, hpt⟩ := hbase
  have HB0 := Lib.hid hB0; have HL0 := Lib.hid hL0; have HS0 := Lib.hid hS0; have HT0 := Lib.hid hT0
  clear hQ hB0 hL0 hS0 hT0
  conv => arg 2; whnf
  have HSk := Lib.hid (HS0.out.gro HC.out.gro (fun e => by cases e) (fun _ e => by cases e)); have HTk := Lib.hid (HT0.out.gro HC.out.gro (fun e => by cases e) (fun _ e => by cases e))
  have k1 := HSk.out.blk.cell; have l1 := HSk.out.blk.lt
  go_wp2_with fail
  refine (rget25 hps _ leastW _ _ HSk.out.rep).mono ?_
  rintro e wb ⟨v1, rfl, hr1, hb1⟩
  obtain ⟨qa, qc, qm, qn, rfl, -⟩ := hr1.inv
  obtain ⟨o, ho⟩ : ∃ o, o = getT s leastW := ⟨_, rfl⟩
  have HO := Lib.hid ho
  have HWb := Lib.hid hb1
  rw [← ho]
  rw [← ho] at hr1
  obtain ⟨x, hx⟩ : ∃ z, z = o.getD T.zero := ⟨_, rfl⟩
  rw [← hx] at hr1
  rw [← hx]
  have HXX := Lib.hid hx
  have hnb := HWb.out.alloc HWb.out.size (.cells #[.int .i64 x.kind, .bool x.bool, .int .i64 x.int, .string x.str, .slice qa x.list.length qc, .slice qm x.map.length qn] 25)
  have HBA := Lib.hid hnb
  have HXB := Lib.hid (show RBox W0 (wb.alloc (.cells #[.int .i64 x.kind, .bool x.bool, .int .i64 x.int, .string x.str, .slice qa x.list.length qc, .slice qm x.map.length qn] 25)) wb.heap.size x qa qc qm qn from ⟨Blk.new _ _ _, hr1.keep (Below.new _ _)⟩)
  have HNX := Lib.hid HWb.out.size
  have HCA0 := Lib.hid (HC.out.fl.ne (k := wb.heap.size) (.inr HWb.out.size)); have HTA := Lib.hid (HTk.out.keep hnb); have HCA := Lib.hid (HC.out.keep hnb); have HLA := Lib.hid (show RepS (wb.alloc (.cells #[.int .i64 x.kind, .bool x.bool, .int .i64 x.int, .string x.str, .slice qa x.list.length qc, .slice qm x.map.length qn] 25)) (fun b => Sl b ∧ b < w.heap.size) a l from HL0.out.mono (fun _ h _ => h) (fun b o _ hlt => ((HC.out.keep hnb).base).cell hlt))
  clear hr1 hb1 k1 l1 ho hx hnb HWb
  cases o with
  | none =>
    have HLF := Lib.hid (show leastF s t l = [] from by unfold leastF; rw [← HO.out])
    clear HO
    go_wp2_with fail
    rw [show N.length = (N ++ leastF s t l).length from by rw [HLF.out, List.append_nil]]
    exact HQ.out A c _ _ _ _ _ _ _ _ _ _ _ _ _ _ _ _ _ _ _ _ _ _ _ _ _ (by rw [HLF.out, List.append_nil]; exact Lib.hid (HCA.out))
  | some x0 =>
    obtain rfl : x = x0 := HXX.out
    have k2 := HTA.out.blk.cell; have l2 := HTA.out.blk.lt
    have HLF0 := Lib.hid (show leastF s t l = if 2 ≤ t.kind ∧ sizeT t < x.int then [(4, l)] else [] from by unfold leastF; rw [← HO.out])
    clear HO
    by_cases hk2 : ¬ 2 ≤ t.kind
    · have HLF := Lib.hid (show leastF s t l = [] from by rw [HLF0.out, if_neg (fun e => hk2 e.1)])
      have hk3 : t.kind < 2 := by omega
      go_wp2_with fail
      rw [show N.length = (N ++ leastF s t l).length from by rw [HLF.out, List.append_nil]]
      exact HQ.out A c _ _ _ _ _ _ _ _ _ _ _ _ _ _ _ _ _ _ _ _ _ _ _ _ _ (by rw [HLF.out, List.append_nil]; exact Lib.hid (HCA.out))
    · have hk2 := Decidable.not_not.1 hk2
      by_cases hlt : ¬ sizeT t < x.int
      · have HLF := Lib.hid (show leastF s t l = [] from by rw [HLF0.out, if_neg (fun e => hlt e.2)])
        go_wp2_with fail
        rw [show N.length = (N ++ leastF s t l).length from by rw [HLF.out, List.append_nil]]
        exact HQ.out A c _ _ _ _ _ _ _ _ _ _ _ _ _ _ _ _ _ _ _ _ _ _ _ _ _ (by rw [HLF.out, List.append_nil]; exact Lib.hid (HCA.out))
      · have hlt := Decidable.not_not.1 hlt
        have HLF := Lib.hid (show leastF s t l = [(4, l)] from by rw [HLF0.out, if_pos ⟨hk2, hlt⟩])
        go_upto_region 10 with fail
        obtain ⟨WA, eA⟩ : ∃ z, z = wb.alloc (.cells #[.int .i64 x.kind, .bool x.bool, .int .i64 x.int, .string x.str, .slice qa x.list.length qc, .slice qm x.map.length qn] 25) := ⟨_, rfl⟩
        obtain ⟨nx, en⟩ : ∃ z, z = wb.heap.size := ⟨_, rfl⟩
        rw [← eA] at HXB HTA HCA HLA HBA
        rw [← en] at HXB HCA0
        rw [← eA, ← en]
        clear eA en
        clear k2 l2
        obtain ⟨A3, c3, w3, hrun, hf3, hg3⟩ := flaw_append 4 (ac := ac) HCA.out.fl HLA.out HCA.out.came (by have := hN; omega) (Nat.le_trans HB0.out.size HCA.out.base.size)
        rw [show [(4, l)] = leastF s t l from HLF.out.symm] at hrun hf3 hg3
        obtain ⟨N9, hN9⟩ : ∃ z, z = N ++ leastF s t l := ⟨_, rfl⟩
        rw [← hN9] at hrun hf3 hg3
        have RUN := Lib.hid hrun; have HF3 := Lib.hid hf3; have HG3 := Lib.hid hg3; have HN9 := Lib.hid hN9
        clear hrun hf3 hg3 hN9
        go_wp2_with (at_builtin; refine wpList_append_run rfl (.tmp 89) (.tmp 92) 34 rfl RUN.out rfl rfl ?_)
        rw [HN9.out]
        exact HQ.out A3 c3 _ _ _ _ _ _ _ _ _ _ _ _ _ _ _ _ _ _ _ _ _ _ _ _ _ (by rw [← HN9.out]; exact Lib.hid (HCA.out.step HF3.out HG3.out))

set_option maxRecDepth 100000 in
set_option maxHeartbeats 16000000 in
theorem rc_most {t s : T} {l : List ByteArray} {a : Option Addr} {ac : Nat} {sla : Option Addr} {slc : Nat} {sma : Option Addr} {smc : Nat} {la : Option Addr} {lc : Nat} {ma : Option Addr} {mc : Nat} {w W0 wc : World} {Sl : Nat → Prop} {n5 n6 : Nat} {K9 : Act → World → Prop} {post : Ending → World → Prop} {A : Option Addr} {c : Nat} {N : List FlawT}  {u0 u1 u5 u6 u8 u9 u11 u12 u13 u14 u15 u16 u17 u18 u19 u20 u21 u22 u23 u24 u25 u26 u27 u28 u29 u30 u31 u32 u33 u34 u35 u36 u37 u38 u39 u40 u41 u42 u43 u44 u45 u46 u47 u48 u49 u50 u51 u52 u53 u54 u55 u56 u57 u58 u59 u60 u61 u62 u63 u64 u65 u66 u67 u68 u69 u70 u71 u72 u73 u74 u75 u76 u77 u78 u79 u80 u81 u82 u83 u84 u85 u86 u87 u88 u89 u90 u91 u92 u93 u94 u95 u96 u97 u98 u99 u100 u101 u102 u103 u104 u105 u106 u107 u108 u109 u110 u111 u112 u113 u114 u115 u116 u117 u118 u119 u120 u121 u122 u123 u124 u125 u126 u127 u128 u129 u130 u131 u132 u133 u134 u135 u136 u137 u138 u139 u140 u141 u142 u143 u144 u145 u146 u147 u148 u149 u150 u151 u152 u153 u154 u155 u156 u157 u158 u159 u160 u161 u162 u163 u164 u165 u166 u167 u168 u169 u170 u171 u172 u173 u174 u175 u176 u177 u178 u179 u180 u181 u182 u183 u184 u185 u186 u187 u188 u189 u190 u191 u192 u193 u194 u195 u196 u197 u198 u199 u200 u201 u202 u203 u204 u205 u206 u207 u208 u209 u210 u211 u212 u213 u214 u215 u216 u217 u218 u219 u220 u221 u222 u223 u224 u225 u226 u227 u228 u229 u230 u231 u232 u233 u234 u235 u236 u237 u238 u239 u240 u241 u242 u243 u244 u245 u246 u247 u248 u249 u250 u251 u252 u253 u254 u255 u256 u257 u258 u259 u260 u261 u262 u263 u264 u265 u266 u267 u268 u269 u270 u271 u272 u273 u274 : Value} (hbase : RBase w W0 Sl a l n5 s sla slc sma smc n6 t la lc ma mc) (HC : Hid (RC w W0 wc Sl A c N)) (hN : N.length ≤ 1000)
    (hQ : ∀ (A' : Option Addr) (c' : Nat) (wx : World) (v13 v14 v94 v95 v96 v97 v98 v99 v100 v101 v102 v103 v104 v105 v106 v107 v108 v109 v110 v111 v112 v113 v114 v115 : Value), Hid (RC w W0 wx Sl A' c' (N ++ mostF s t l)) → K9 ⟨#[u0, u1, .slice a l.length ac, .pointer (some ⟨n5, 0, none⟩), .pointer (some ⟨n6, 0, none⟩), u5, u6, .slice A' (N ++ mostF s t l).length c', u8, u9, .int .i64 (sizeT t), u11, u12, v13, v14, u15, u16, u17, u18, u19, u20, u21, u22, u23, u24, u25, u26, u27, u28, u29, u30, u31, u32, u33, u34, u35, u36, u37, u38, u39, u40, u41, u42, u43, u44, u45, u46, u47, u48, u49, u50, u51, u52, u53, u54, u55, u56, u57, u58, u59, u60, u61, u62, u63, u64, u65, u66, u67, u68, u69, u70, u71, u72, u73, u74, u75, u76, u77, u78, u79, u80, u81, u82, u83, u84, u85, u86, u87, u88, u89, u90, u91, u92, u93, v94, v95, v96, v97, v98, v99, v100, v101, v102, v103, v104, v105, v106, v107, v108, v109, v110, v111, v112, v113, v114, v115, u116, u117, u118, u119, u120, u121, u122, u123, u124, u125, u126, u127, u128, u129, u130, u131, u132, u133, u134, u135, u136, u137, u138, u139, u140, u141, u142, u143, u144, u145, u146, u147, u148, u149, u150, u151, u152, u153, u154, u155, u156, u157, u158, u159, u160, u161, u162, u163, u164, u165, u166, u167, u168, u169, u170, u171, u172, u173, u174, u175, u176, u177, u178, u179, u180, u181, u182, u183, u184, u185, u186, u187, u188, u189, u190, u191, u192, u193, u194, u195, u196, u197, u198, u199, u200, u201, u202, u203, u204, u205, u206, u207, u208, u209, u210, u211, u212, u213, u214, u215, u216, u217, u218, u219, u220, u221, u222, u223, u224, u225, u226, u227, u228, u229, u230, u231, u232, u233, u234, u235, u236, u237, u238, u239, u240, u241, u242, u243, u244, u245, u246, u247, u248, u249, u250, u251, u252, u253, u254, u255, u256, u257, u258, u259, u260, u261, u262, u263, u264, u265, u266, u267, u268, u269, u270, u271, u272, u273, u274], []⟩ wx) :
    Code.wp Tryd.prog (chk25 6) (Exit.then K9 (bodyPost Tryd.prog Tryd.f10 post)) ⟨#[u0, u1, .slice a l.length ac, .pointer (some ⟨n5, 0, none⟩), .pointer (some ⟨n6, 0, none⟩), u5, u6, .slice A N.length c, u8, u9, .int .i64 (sizeT t), u11, u12, u13, u14, u15, u16, u17, u18, u19, u20, u21, u22, u23, u24, u25, u26, u27, u28, u29, u30, u31, u32, u33, u34, u35, u36, u37, u38, u39, u40, u41, u42, u43, u44, u45, u46, u47, u48, u49, u50, u51, u52, u53, u54, u55, u56, u57, u58, u59, u60, u61, u62, u63, u64, u65, u66, u67, u68, u69, u70, u71, u72, u73, u74, u75, u76, u77, u78, u79, u80, u81, u82, u83, u84, u85, u86, u87, u88, u89, u90, u91, u92, u93, u94, u95, u96, u97, u98, u99, u100, u101, u102, u103, u104, u105, u106, u107, u108, u109, u110, u111, u112, u113, u114, u115, u116, u117, u118, u119, u120, u121, u122, u123, u124, u125, u126, u127, u128, u129, u130, u131, u132, u133, u134, u135, u136, u137, u138, u139, u140, u141, u142, u143, u144, u145, u146, u147, u148, u149, u150, u151, u152, u153, u154, u155, u156, u157, u158, u159, u160, u161, u162, u163, u164, u165, u166, u167, u168, u169, u170, u171, u172, u173, u174, u175, u176, u177, u178, u179, u180, u181, u182, u183, u184, u185, u186, u187, u188, u189, u190, u191, u192, u193, u194, u195, u196, u197, u198, u199, u200, u201, u202, u203, u204, u205, u206, u207, u208, u209, u210, u211, u212, u213, u214, u215, u216, u217, u218, u219, u220, u221, u222, u223, u224, u225, u226, u227, u228, u229, u230, u231, u232, u233, u234, u235, u236, u237, u238, u239, u240, u241, u242, u243, u244, u245, u246, u247, u248, u249, u250, u251, u252, u253, u254, u255, u256, u257, u258, u259, u260, u261, u262, u263, u264, u265, u266, u267, u268, u269, u270, u271, u272, u273, u274], []⟩ wc := by
  have HQ := Lib.hid hQ
  obtain ⟨hB0, hL0, hS0, hT0, hps, hpt⟩ := hbase
  have HB0 := Lib.hid hB0; have HL0 := Lib.hid hL0; have HS0 := Lib.hid hS0; have HT0 := Lib.hid hT0
  clear hQ hB0 hL0 hS0 hT0
  conv => arg 2; whnf
  have HSk := Lib.hid (HS0.out.gro HC.out.gro (fun e => by cases e) (fun _ e => by cases e)); have HTk := Lib.hid (HT0.out.gro HC.out.gro (fun e => by cases e) (fun _ e => by cases e))
  have k1 := HSk.out.blk.cell; have l1 := HSk.out.blk.lt
  go_wp2_with fail
  refine (rget25 hps _ mostW _ _ HSk.out.rep).mono ?_
  rintro e wb ⟨v1, rfl, hr1, hb1⟩
  obtain ⟨qa, qc, qm, qn, rfl, -⟩ := hr1.inv
  obtain ⟨o, ho⟩ : ∃ o, o = getT s mostW := ⟨_, rfl⟩
  have HO := Lib.hid ho
  have HWb := Lib.hid hb1
  rw [← ho]
  rw [← ho] at hr1
  obtain ⟨x, hx⟩ : ∃ z, z = o.getD T.zero := ⟨_, rfl⟩
  rw [← hx] at hr1
  rw [← hx]
  have HXX := Lib.hid hx
  have hnb := HWb.out.alloc HWb.out.size (.cells #[.int .i64 x.kind, .bool x.bool, .int .i64 x.int, .string x.str, .slice qa x.list.length qc, .slice qm x.map.length qn] 25)
  have HBA := Lib.hid hnb
  have HXB := Lib.hid (show RBox W0 (wb.alloc (.cells #[.int .i64 x.kind, .bool x.bool, .int .i64 x.int, .string x.str, .slice qa x.list.length qc, .slice qm x.map.length qn] 25)) wb.heap.size x qa qc qm qn from ⟨Blk.new _ _ _, hr1.keep (Below.new _ _)⟩)
  have HNX := Lib.hid HWb.out.size
  have HCA0 := Lib.hid (HC.out.fl.ne (k := wb.heap.size) (.inr HWb.out.size)); have HTA := Lib.hid (HTk.out.keep hnb); have HCA := Lib.hid (HC.out.keep hnb); have HLA := Lib.hid (show RepS (wb.alloc (.cells #[.int .i64 x.kind, .bool x.bool, .int .i64 x.int, .string x.str, .slice qa x.list.length qc, .slice qm x.map.length qn] 25)) (fun b => Sl b ∧ b < w.heap.size) a l from HL0.out.mono (fun _ h _ => h) (fun b o _ hlt => ((HC.out.keep hnb).base).cell hlt))
  clear hr1 hb1 k1 l1 ho hx hnb HWb
  cases o with
  | none =>
    have HLF := Lib.hid (show mostF s t l = [] from by unfold mostF; rw [← HO.out])
    clear HO
    go_wp2_with fail
    rw [show N.length = (N ++ mostF s t l).length from by rw [HLF.out, List.append_nil]]
    exact HQ.out A c _ _ _ _ _ _ _ _ _ _ _ _ _ _ _ _ _ _ _ _ _ _ _ _ _ (by rw [HLF.out, List.append_nil]; exact Lib.hid (HCA.out))
  | some x0 =>
    obtain rfl : x = x0 := HXX.out
    have k2 := HTA.out.blk.cell; have l2 := HTA.out.blk.lt
    have HLF0 := Lib.hid (show mostF s t l = if 2 ≤ t.kind ∧ x.int < sizeT t then [(5, l)] else [] from by unfold mostF; rw [← HO.out])
    clear HO
    by_cases hk2 : ¬ 2 ≤ t.kind
    · have HLF := Lib.hid (show mostF s t l = [] from by rw [HLF0.out, if_neg (fun e => hk2 e.1)])
      have hk3 : t.kind < 2 := by omega
      go_wp2_with fail
      rw [show N.length = (N ++ mostF s t l).length from by rw [HLF.out, List.append_nil]]
      exact HQ.out A c _ _ _ _ _ _ _ _ _ _ _ _ _ _ _ _ _ _ _ _ _ _ _ _ _ (by rw [HLF.out, List.append_nil]; exact Lib.hid (HCA.out))
    · have hk2 := Decidable.not_not.1 hk2
      by_cases hlt : ¬ x.int < sizeT t
      · have HLF := Lib.hid (show mostF s t l = [] from by rw [HLF0.out, if_neg (fun e => hlt e.2)])
        go_wp2_with fail
        rw [show N.length = (N ++ mostF s t l).length from by rw [HLF.out, List.append_nil]]
        exact HQ.out A c _ _ _ _ _ _ _ _ _ _ _ _ _ _ _ _ _ _ _ _ _ _ _ _ _ (by rw [HLF.out, List.append_nil]; exact Lib.hid (HCA.out))
      · have hlt := Decidable.not_not.1 hlt
        have HLF := Lib.hid (show mostF s t l = [(5, l)] from by rw [HLF0.out, if_pos ⟨hk2, hlt⟩])
        go_upto_region 13 with fail
        obtain ⟨WA, eA⟩ : ∃ z, z = wb.alloc (.cells #[.int .i64 x.kind, .bool x.bool, .int .i64 x.int, .string x.str, .slice qa x.list.length qc, .slice qm x.map.length qn] 25) := ⟨_, rfl⟩
        obtain ⟨nx, en⟩ : ∃ z, z = wb.heap.size := ⟨_, rfl⟩
        rw [← eA] at HXB HTA HCA HLA HBA
        rw [← en] at HXB HCA0
        rw [← eA, ← en]
        clear eA en
        clear k2 l2
        obtain ⟨A3, c3, w3, hrun, hf3, hg3⟩ := flaw_append 5 (ac := ac) HCA.out.fl HLA.out HCA.out.came (by have := hN; omega) (Nat.le_trans HB0.out.size HCA.out.base.size)
        rw [show [(5, l)] = mostF s t l from HLF.out.symm] at hrun hf3 hg3
        obtain ⟨N9, hN9⟩ : ∃ z, z = N ++ mostF s t l := ⟨_, rfl⟩
        rw [← hN9] at hrun hf3 hg3
        have RUN := Lib.hid hrun; have HF3 := Lib.hid hf3; have HG3 := Lib.hid hg3; have HN9 := Lib.hid hN9
        clear hrun hf3 hg3 hN9
        go_wp2_with (at_builtin; refine wpList_append_run rfl (.tmp 111) (.tmp 114) 34 rfl RUN.out rfl rfl ?_)
        rw [HN9.out]
        exact HQ.out A3 c3 _ _ _ _ _ _ _ _ _ _ _ _ _ _ _ _ _ _ _ _ _ _ _ _ _ (by rw [← HN9.out]; exact Lib.hid (HCA.out.step HF3.out HG3.out))

set_option maxRecDepth 100000 in
set_option maxHeartbeats 32000000 in
theorem rc_one {t s : T} {l : List ByteArray} {a : Option Addr} {ac : Nat} {sla : Option Addr} {slc : Nat} {sma : Option Addr} {smc : Nat} {la : Option Addr} {lc : Nat} {ma : Option Addr} {mc : Nat} {w W0 wc : World} {Sl : Nat → Prop} {n5 n6 : Nat} {K9 : Act → World → Prop} {post : Ending → World → Prop} {A : Option Addr} {c : Nat} {N : List FlawT}  {u0 u1 u5 u6 u8 u9 u10 u11 u12 u13 u14 u15 u16 u17 u18 u19 u20 u21 u22 u23 u24 u25 u26 u27 u28 u29 u30 u31 u32 u33 u34 u35 u36 u37 u38 u39 u40 u41 u42 u43 u44 u45 u46 u47 u48 u49 u50 u51 u52 u53 u54 u55 u56 u57 u58 u59 u60 u61 u62 u63 u64 u65 u66 u67 u68 u69 u70 u71 u72 u73 u74 u75 u76 u77 u78 u79 u80 u81 u82 u83 u84 u85 u86 u87 u88 u89 u90 u91 u92 u93 u94 u95 u96 u97 u98 u99 u100 u101 u102 u103 u104 u105 u106 u107 u108 u109 u110 u111 u112 u113 u114 u115 u116 u117 u118 u119 u120 u121 u122 u123 u124 u125 u126 u127 u128 u129 u130 u131 u132 u133 u134 u135 u136 u137 u138 u139 u140 u141 u142 u143 u144 u145 u146 u147 u148 u149 u150 u151 u152 u153 u154 u155 u156 u157 u158 u159 u160 u161 u162 u163 u164 u165 u166 u167 u168 u169 u170 u171 u172 u173 u174 u175 u176 u177 u178 u179 u180 u181 u182 u183 u184 u185 u186 u187 u188 u189 u190 u191 u192 u193 u194 u195 u196 u197 u198 u199 u200 u201 u202 u203 u204 u205 u206 u207 u208 u209 u210 u211 u212 u213 u214 u215 u216 u217 u218 u219 u220 u221 u222 u223 u224 u225 u226 u227 u228 u229 u230 u231 u232 u233 u234 u235 u236 u237 u238 u239 u240 u241 u242 u243 u244 u245 u246 u247 u248 u249 u250 u251 u252 u253 u254 u255 u256 u257 u258 u259 u260 u261 u262 u263 u264 u265 u266 u267 u268 u269 u270 u271 u272 u273 u274 : Value} (hbase : RBase w W0 Sl a l n5 s sla slc sma smc n6 t la lc ma mc) (HC : Hid (RC w W0 wc Sl A c N)) (hN : N.length ≤ 1000) (hfs : FineT s)
    (hQ : ∀ (A' : Option Addr) (c' : Nat) (wx : World) (v15 v16 v17 v18 v116 v117 v118 v119 v120 v121 v122 v123 v124 v125 v126 v127 v128 v129 v130 v131 v132 v133 v134 v135 v136 v137 v138 v139 v140 v141 v142 v143 v144 v145 : Value), Hid (RC w W0 wx Sl A' c' (N ++ oneF s t l)) → K9 ⟨#[u0, u1, .slice a l.length ac, .pointer (some ⟨n5, 0, none⟩), .pointer (some ⟨n6, 0, none⟩), u5, u6, .slice A' (N ++ oneF s t l).length c', u8, u9, u10, u11, u12, u13, u14, v15, v16, v17, v18, u19, u20, u21, u22, u23, u24, u25, u26, u27, u28, u29, u30, u31, u32, u33, u34, u35, u36, u37, u38, u39, u40, u41, u42, u43, u44, u45, u46, u47, u48, u49, u50, u51, u52, u53, u54, u55, u56, u57, u58, u59, u60, u61, u62, u63, u64, u65, u66, u67, u68, u69, u70, u71, u72, u73, u74, u75, u76, u77, u78, u79, u80, u81, u82, u83, u84, u85, u86, u87, u88, u89, u90, u91, u92, u93, u94, u95, u96, u97, u98, u99, u100, u101, u102, u103, u104, u105, u106, u107, u108, u109, u110, u111, u112, u113, u114, u115, v116, v117, v118, v119, v120, v121, v122, v123, v124, v125, v126, v127, v128, v129, v130, v131, v132, v133, v134, v135, v136, v137, v138, v139, v140, v141, v142, v143, v144, v145, u146, u147, u148, u149, u150, u151, u152, u153, u154, u155, u156, u157, u158, u159, u160, u161, u162, u163, u164, u165, u166, u167, u168, u169, u170, u171, u172, u173, u174, u175, u176, u177, u178, u179, u180, u181, u182, u183, u184, u185, u186, u187, u188, u189, u190, u191, u192, u193, u194, u195, u196, u197, u198, u199, u200, u201, u202, u203, u204, u205, u206, u207, u208, u209, u210, u211, u212, u213, u214, u215, u216, u217, u218, u219, u220, u221, u222, u223, u224, u225, u226, u227, u228, u229, u230, u231, u232, u233, u234, u235, u236, u237, u238, u239, u240, u241, u242, u243, u244, u245, u246, u247, u248, u249, u250, u251, u252, u253, u254, u255, u256, u257, u258, u259, u260, u261, u262, u263, u264, u265, u266, u267, u268, u269, u270, u271, u272, u273, u274], []⟩ wx) :
    Code.wp Tryd.prog (chk25 7) (Exit.then K9 (bodyPost Tryd.prog Tryd.f10 post)) ⟨#[u0, u1, .slice a l.length ac, .pointer (some ⟨n5, 0, none⟩), .pointer (some ⟨n6, 0, none⟩), u5, u6, .slice A N.length c, u8, u9, u10, u11, u12, u13, u14, u15, u16, u17, u18, u19, u20, u21, u22, u23, u24, u25, u26, u27, u28, u29, u30, u31, u32, u33, u34, u35, u36, u37, u38, u39, u40, u41, u42, u43, u44, u45, u46, u47, u48, u49, u50, u51, u52, u53, u54, u55, u56, u57, u58, u59, u60, u61, u62, u63, u64, u65, u66, u67, u68, u69, u70, u71, u72, u73, u74, u75, u76, u77, u78, u79, u80, u81, u82, u83, u84, u85, u86, u87, u88, u89, u90, u91, u92, u93, u94, u95, u96, u97, u98, u99, u100, u101, u102, u103, u104, u105, u106, u107, u108, u109, u110, u111, u112, u113, u114, u115, u116, u117, u118, u119, u120, u121, u122, u123, u124, u125, u126, u127, u128, u129, u130, u131, u132, u133, u134, u135, u136, u137, u138, u139, u140, u141, u142, u143, u144, u145, u146, u147, u148, u149, u150, u151, u152, u153, u154, u155, u156, u157, u158, u159, u160, u161, u162, u163, u164, u165, u166, u167, u168, u169, u170, u171, u172, u173, u174, u175, u176, u177, u178, u179, u180, u181, u182, u183, u184, u185, u186, u187, u188, u189, u190, u191, u192, u193, u194, u195, u196, u197, u198, u199, u200, u201, u202, u203, u204, u205, u206, u207, u208, u209, u210, u211, u212, u213, u214, u215, u216, u217, u218, u219, u220, u221, u222, u223, u224, u225, u226, u227, u228, u229, u230, u231, u232, u233, u234, u235, u236, u237, u238, u239, u240, u241, u242, u243, u244, u245, u246, u247, u248, u249, u250, u251, u252, u253, u254, u255, u256, u257, u258, u259, u260, u261, u262, u263, u264, u265, u266, u267, u268, u269, u270, u271, u272, u273, u274], []⟩ wc := by
  have HQ := Lib.hid hQ
  obtain ⟨hB0, hL0, hS0, hT0, hps, hpt⟩ := hbase
  have HB0 := Lib.hid hB0; have HL0 := Lib.hid hL0; have HS0 := Lib.hid hS0; have HT0 := Lib.hid hT0
  clear hQ hB0 hL0 hS0 hT0
  conv => arg 2; whnf
  have HFS := Lib.hid hfs
  clear hfs
  have HSk := Lib.hid (HS0.out.gro HC.out.gro (fun e => by cases e) (fun _ e => by cases e)); have HTk := Lib.hid (HT0.out.gro HC.out.gro (fun e => by cases e) (fun _ e => by cases e))
  have k1 := HSk.out.blk.cell; have l1 := HSk.out.blk.lt
  go_wp2_with fail
  refine (rget25 hps _ oneW _ _ HSk.out.rep).mono ?_
  rintro e wb ⟨v1, rfl, hr1, hb1⟩
  obtain ⟨qa, qc, qm, qn, rfl, -⟩ := hr1.inv
  obtain ⟨o, ho⟩ : ∃ o, o = getT s oneW := ⟨_, rfl⟩
  have HO := Lib.hid ho
  have HWb := Lib.hid hb1
  rw [← ho]
  rw [← ho] at hr1
  obtain ⟨x, hx⟩ : ∃ z, z = o.getD T.zero := ⟨_, rfl⟩
  rw [← hx] at hr1
  rw [← hx]
  have HXX := Lib.hid hx
  have hnb := HWb.out.alloc HWb.out.size (.cells #[.int .i64 x.kind, .bool x.bool, .int .i64 x.int, .string x.str, .slice qa x.list.length qc, .slice qm x.map.length qn] 25)
  have HBA := Lib.hid hnb
  have HXB := Lib.hid (show RBox W0 (wb.alloc (.cells #[.int .i64 x.kind, .bool x.bool, .int .i64 x.int, .string x.str, .slice qa x.list.length qc, .slice qm x.map.length qn] 25)) wb.heap.size x qa qc qm qn from ⟨Blk.new _ _ _, hr1.keep (Below.new _ _)⟩)
  have HNX := Lib.hid HWb.out.size
  have HCA0 := Lib.hid (HC.out.fl.ne (k := wb.heap.size) (.inr HWb.out.size)); have HTA := Lib.hid (HTk.out.keep hnb); have HCA := Lib.hid (HC.out.keep hnb); have HLA := Lib.hid (show RepS (wb.alloc (.cells #[.int .i64 x.kind, .bool x.bool, .int .i64 x.int, .string x.str, .slice qa x.list.length qc, .slice qm x.map.length qn] 25)) (fun b => Sl b ∧ b < w.heap.size) a l from HL0.out.mono (fun _ h _ => h) (fun b o _ hlt => ((HC.out.keep hnb).base).cell hlt))
  clear hr1 hb1 k1 l1 ho hx hnb HWb
  cases o with
  | none =>
    have HLF := Lib.hid (show oneF s t l = [] from by unfold oneF; rw [← HO.out])
    clear HO
    go_wp2_with fail
    rw [show N.length = (N ++ oneF s t l).length from by rw [HLF.out, List.append_nil]]
    exact HQ.out A c _ _ _ _ _ _ _ _ _ _ _ _ _ _ _ _ _ _ _ _ _ _ _ _ _ _ _ _ _ _ _ _ _ _ _ (by rw [HLF.out, List.append_nil]; exact Lib.hid (HCA.out))
  | some x0 =>
    obtain rfl : x = x0 := HXX.out
    have HFX := Lib.hid (HFS.out.getT HO.out.symm)
    have HLF0 := Lib.hid (show oneF s t l = if x.list.any (fun y => decide (T.cmp y t = 0)) then [] else [(6, l)] from by unfold oneF; rw [← HO.out])
    clear HO
    go_upto_region 15 with fail
    obtain ⟨WA, eA⟩ : ∃ z, z = wb.alloc (.cells #[.int .i64 x.kind, .bool x.bool, .int .i64 x.int, .string x.str, .slice qa x.list.length qc, .slice qm x.map.length qn] 25) := ⟨_, rfl⟩
    obtain ⟨nx, en⟩ : ∃ z, z = wb.heap.size := ⟨_, rfl⟩
    rw [← eA] at HXB HTA HCA HLA HBA
    rw [← en] at HXB HCA0
    rw [← eA, ← en]
    clear eA en
    have k2 := HTA.out.blk.cell; have l2 := HTA.out.blk.lt; have k3 := HXB.out.blk.cell; have l3 := HXB.out.blk.lt
    have HXL := Lib.hid (HXB.out.rep.lay.2.2.2.2.2.2.2.2.2.1)
    have hx6 : x.list.length ≤ 1000000 := by have h1 := wt_list x; have h2 := HFX.out.2; omega
    go_wp2_with fail
    go_loopw [17, 18] (fun x17 x18 wr => ∃ q : Nat, q ≤ x.list.length ∧ x18 = .int .i64 q ∧ x17 = .bool ((x.list.take q).any fun y => decide (T.cmp y t = 0)) ∧ Hid (Below WA.heap.size WA wr)) (fun _ x18 _ => x.list.length - (Lib.intOf x18).toNat)
    case atStart => exact ⟨0, Nat.zero_le _, rfl, by rw [List.take_zero]; rfl, Lib.hid (Below.refl _ _)⟩
    case round =>
      clear k2 l2 k3 l3
      obtain ⟨q, hq, rfl, rfl, HBQ⟩ := hrel
      have HXQ := Lib.hid (HXB.out.keep HBQ.out); have HTQ := Lib.hid (HTA.out.keep HBQ.out)
      have k3 := HXQ.out.blk.cell; have l3 := HXQ.out.blk.lt
      by_cases hlt : q < x.list.length
      · obtain ⟨bl, ol, yla, ylc, yma, ymc, rfl, -, hbl, ⟨d0, d1, d2, d3, d4, d5⟩, hr⟩ := (HXL.out.keep HBQ.out).at_ hlt
        have hz : ((x.list.take (q + 1)).any fun y => decide (T.cmp y t = 0)) = (((x.list.take q).any fun y => decide (T.cmp y t = 0)) || decide (T.cmp x.list[q] t = 0)) := by rw [List.take_succ_eq_append_getElem hlt, List.any_append]; simp
        have hfy := HFX.out.list (List.getElem_mem hlt)
        generalize x.list[q] = y at d0 d1 d2 d3 d4 d5 hr hz hfy
        obtain ⟨rr, hrr⟩ : ∃ z, z = decide (T.cmp y t = 0) := ⟨_, rfl⟩
        have CS := Lib.hid (fun w2 (h1 : RepT w2 (fun _ => True) (.agg #[.int .i64 y.kind, .bool y.bool, .int .i64 y.int, .string y.str, .slice yla y.list.length ylc, .slice yma y.map.length ymc]) y) (h2 : RepT w2 (fun _ => True) (.agg #[.int .i64 t.kind, .bool t.bool, .int .i64 t.int, .string t.str, .slice la t.list.length lc, .slice ma t.map.length mc]) t) => rsame25 hfy.1 hpt w2 _ _ _ _ h1 h2)
        rw [← hrr] at CS hz
        have HRY := Lib.hid (hr.weak (S' := fun _ => True) (fun _ _ _ => trivial))
        clear hrr hfy hr
        obtain ⟨b, hb⟩ : ∃ b, b = ((x.list.take q).any fun y => decide (T.cmp y t = 0)) := ⟨_, rfl⟩
        rw [← hb] at hz ⊢
        clear hb
        go_upto_region 20 with fail
        clear k3 l3
        cases b with
        | true =>
          have HZ := Lib.hid (show ((x.list.take (q + 1)).any fun y => decide (T.cmp y t = 0)) = true from by rw [hz]; rfl)
          clear hz
          refine wp_region_held_drew (S := (fun w' => (∀ i, w'.cell? ⟨nx, i, none⟩ = (#[.int .i64 x.kind, .bool x.bool, .int .i64 x.int, .string x.str, .slice (some ⟨bl, ol, none⟩) x.list.length qc, .slice qm x.map.length qn] : Array Value)[i]?) ∧ (∀ i, w'.cell? ⟨n6, i, none⟩ = (#[.int .i64 t.kind, .bool t.bool, .int .i64 t.int, .string t.str, .slice la t.list.length lc, .slice ma t.map.length mc] : Array Value)[i]?) ∧ w'.cell? ⟨bl, ol + q * 6, none⟩ = some (.int .i64 y.kind) ∧ w'.cell? ⟨bl, ol + q * 6 + 1, none⟩ = some (.bool y.bool) ∧ w'.cell? ⟨bl, ol + q * 6 + 2, none⟩ = some (.int .i64 y.int) ∧ w'.cell? ⟨bl, ol + q * 6 + 3, none⟩ = some (.string y.str) ∧ w'.cell? ⟨bl, ol + q * 6 + 4, none⟩ = some (.slice yla y.list.length ylc) ∧ w'.cell? ⟨bl, ol + q * 6 + 5, none⟩ = some (.slice yma y.map.length ymc))) (by kernel_rfl) (by exact ⟨(HXQ.out.blk.keep (Below.refl wr.heap.size wr).drew).cell, (HTQ.out.blk.keep (Below.refl wr.heap.size wr).drew).cell, (((Below.refl wr.heap.size wr).drew).cell hbl).trans d0, (((Below.refl wr.heap.size wr).drew).cell hbl).trans d1, (((Below.refl wr.heap.size wr).drew).cell hbl).trans d2, (((Below.refl wr.heap.size wr).drew).cell hbl).trans d3, (((Below.refl wr.heap.size wr).drew).cell hbl).trans d4, (((Below.refl wr.heap.size wr).drew).cell hbl).trans d5⟩) (fun hHeld => ?_)
          refine wpAnyH_take (i := 0) (v := .bool true) (by conv => lhs; simp only [List.getElem?_toArray, List.getElem?_cons_succ, List.getElem?_cons_zero]) (by kernel_rfl) (by kernel_rfl) (by kernel_rfl) (by exact fun _ _ _ h => h) (Or.inl ⟨by rfl, ?hym1_0⟩) (by assumption) ?_
          case hym1_0 => (intro w0 hSw; (try dsimp only at hSw); go_simp; (try with_reducible rfl); (try assumption))
          try simp only [Act.put, List.setIfInBounds_toArray, List.set_cons_zero, List.set_cons_succ]
          refine wpAnyH_take (i := 1) (v := .bool true) (by conv => lhs; simp only [List.getElem?_toArray, List.getElem?_cons_succ, List.getElem?_cons_zero]) (by kernel_rfl) (by kernel_rfl) (by kernel_rfl) (by exact fun _ _ _ h => h) (Or.inl ⟨by rfl, ?hym1_1⟩) (by assumption) ?_
          case hym1_1 => (intro w0 hSw; (try dsimp only at hSw); go_simp; (try with_reducible rfl); (try assumption))
          try simp only [Act.put, List.setIfInBounds_toArray, List.set_cons_zero, List.set_cons_succ]
          refine wpAnyH_take (i := 2) (v := undef) (by conv => lhs; simp only [List.getElem?_toArray, List.getElem?_cons_succ, List.getElem?_cons_zero]) (by kernel_rfl) (by kernel_rfl) (by kernel_rfl) (by exact fun _ _ _ h => h) (Or.inr ⟨by rfl, rfl⟩) (by assumption) ?_
          try simp only [Act.put, List.setIfInBounds_toArray, List.set_cons_zero, List.set_cons_succ]
          refine wpAnyH_take (i := 3) (v := undef) (by conv => lhs; simp only [List.getElem?_toArray, List.getElem?_cons_succ, List.getElem?_cons_zero]) (by kernel_rfl) (by kernel_rfl) (by kernel_rfl) (by exact fun _ _ _ h => h) (Or.inr ⟨by rfl, rfl⟩) (by assumption) ?_
          try simp only [Act.put, List.setIfInBounds_toArray, List.set_cons_zero, List.set_cons_succ]
          refine wpAnyH_take (i := 4) (v := undef) (by conv => lhs; simp only [List.getElem?_toArray, List.getElem?_cons_succ, List.getElem?_cons_zero]) (by kernel_rfl) (by kernel_rfl) (by kernel_rfl) (by exact fun _ _ _ h => h) (Or.inr ⟨by rfl, rfl⟩) (by assumption) ?_
          try simp only [Act.put, List.setIfInBounds_toArray, List.set_cons_zero, List.set_cons_succ]
          refine wpAnyH_take (i := 5) (v := undef) (by conv => lhs; simp only [List.getElem?_toArray, List.getElem?_cons_succ, List.getElem?_cons_zero]) (by kernel_rfl) (by kernel_rfl) (by kernel_rfl) (by exact fun _ _ _ h => h) (Or.inr ⟨by rfl, rfl⟩) (by assumption) ?_
          try simp only [Act.put, List.setIfInBounds_toArray, List.set_cons_zero, List.set_cons_succ]
          refine wpAnyH_take (i := 6) (v := undef) (by conv => lhs; simp only [List.getElem?_toArray, List.getElem?_cons_succ, List.getElem?_cons_zero]) (by kernel_rfl) (by kernel_rfl) (by kernel_rfl) (by exact fun _ _ _ h => h) (Or.inr ⟨by rfl, rfl⟩) (by assumption) ?_
          try simp only [Act.put, List.setIfInBounds_toArray, List.set_cons_zero, List.set_cons_succ]
          refine wpAnyH_take (i := 7) (v := undef) (by conv => lhs; simp only [List.getElem?_toArray, List.getElem?_cons_succ, List.getElem?_cons_zero]) (by kernel_rfl) (by kernel_rfl) (by kernel_rfl) (by exact fun _ _ _ h => h) (Or.inr ⟨by rfl, rfl⟩) (by assumption) ?_
          try simp only [Act.put, List.setIfInBounds_toArray, List.set_cons_zero, List.set_cons_succ]
          refine wpAnyH_take (i := 8) (v := undef) (by conv => lhs; simp only [List.getElem?_toArray, List.getElem?_cons_succ, List.getElem?_cons_zero]) (by kernel_rfl) (by kernel_rfl) (by kernel_rfl) (by exact fun _ _ _ h => h) (Or.inr ⟨by rfl, rfl⟩) (by assumption) ?_
          try simp only [Act.put, List.setIfInBounds_toArray, List.set_cons_zero, List.set_cons_succ]
          refine wpAnyH_take (i := 9) (v := .bool true) (by conv => lhs; simp only [List.getElem?_toArray, List.getElem?_cons_succ, List.getElem?_cons_zero]) (by kernel_rfl) (by kernel_rfl) (by kernel_rfl) (by exact fun _ _ _ h => h) (Or.inl ⟨by rfl, ?hym1_9⟩) (by assumption) ?_
          case hym1_9 => (intro w0 hSw; (try dsimp only at hSw); go_simp; (try with_reducible rfl); (try assumption))
          try simp only [Act.put, List.setIfInBounds_toArray, List.set_cons_zero, List.set_cons_succ]
          refine wpAnyH_take (i := 10) (v := ?vm1_10) (by conv => lhs; simp only [List.getElem?_toArray, List.getElem?_cons_succ, List.getElem?_cons_zero]) (by kernel_rfl) (by kernel_rfl) (by kernel_rfl) (by exact fun _ _ _ h => h) (Or.inl ⟨by rfl, ?hym1_10⟩) (by assumption) ?_
          case hym1_10 => (intro w0 hSw; (try dsimp only at hSw); go_simp; (try with_reducible rfl); (try assumption))
          try simp only [Act.put, List.setIfInBounds_toArray, List.set_cons_zero, List.set_cons_succ]
          refine wpAnyH_done (by kernel_rfl) ?_ _
          go_wp2_with fail
          go_roundw
          case rel => exact ⟨q + 1, by omega, by go_num, by rw [HZ.out], Lib.hid (HBQ.out.trans ((Below.refl wr.heap.size wr).drew.mono HBQ.out.size))⟩
          case measure => simp [Lib.intOf]; omega
        | false =>
          rw [Bool.false_or] at hz
          cases rr with
          | true =>
            have HZ := Lib.hid hz
            clear hz
            refine wp_region_held_drew (S := (fun w' => (∀ i, w'.cell? ⟨nx, i, none⟩ = (#[.int .i64 x.kind, .bool x.bool, .int .i64 x.int, .string x.str, .slice (some ⟨bl, ol, none⟩) x.list.length qc, .slice qm x.map.length qn] : Array Value)[i]?) ∧ (∀ i, w'.cell? ⟨n6, i, none⟩ = (#[.int .i64 t.kind, .bool t.bool, .int .i64 t.int, .string t.str, .slice la t.list.length lc, .slice ma t.map.length mc] : Array Value)[i]?) ∧ w'.cell? ⟨bl, ol + q * 6, none⟩ = some (.int .i64 y.kind) ∧ w'.cell? ⟨bl, ol + q * 6 + 1, none⟩ = some (.bool y.bool) ∧ w'.cell? ⟨bl, ol + q * 6 + 2, none⟩ = some (.int .i64 y.int) ∧ w'.cell? ⟨bl, ol + q * 6 + 3, none⟩ = some (.string y.str) ∧ w'.cell? ⟨bl, ol + q * 6 + 4, none⟩ = some (.slice yla y.list.length ylc) ∧ w'.cell? ⟨bl, ol + q * 6 + 5, none⟩ = some (.slice yma y.map.length ymc))) (by kernel_rfl) (by exact ⟨(HXQ.out.blk.keep (Below.refl wr.heap.size wr).drew).cell, (HTQ.out.blk.keep (Below.refl wr.heap.size wr).drew).cell, (((Below.refl wr.heap.size wr).drew).cell hbl).trans d0, (((Below.refl wr.heap.size wr).drew).cell hbl).trans d1, (((Below.refl wr.heap.size wr).drew).cell hbl).trans d2, (((Below.refl wr.heap.size wr).drew).cell hbl).trans d3, (((Below.refl wr.heap.size wr).drew).cell hbl).trans d4, (((Below.refl wr.heap.size wr).drew).cell hbl).trans d5⟩) (fun hHeld => ?_)
            refine wpAnyH_take (i := 0) (v := .bool false) (by conv => lhs; simp only [List.getElem?_toArray, List.getElem?_cons_succ, List.getElem?_cons_zero]) (by kernel_rfl) (by kernel_rfl) (by kernel_rfl) (by exact fun _ _ _ h => h) (Or.inl ⟨by rfl, ?hym2_0⟩) (by assumption) ?_
            case hym2_0 => (intro w0 hSw; (try dsimp only at hSw); go_simp; (try with_reducible rfl); (try assumption))
            try simp only [Act.put, List.setIfInBounds_toArray, List.set_cons_zero, List.set_cons_succ]
            refine wpAnyH_take (i := 1) (v := .bool false) (by conv => lhs; simp only [List.getElem?_toArray, List.getElem?_cons_succ, List.getElem?_cons_zero]) (by kernel_rfl) (by kernel_rfl) (by kernel_rfl) (by exact fun _ _ _ h => h) (Or.inl ⟨by rfl, ?hym2_1⟩) (by assumption) ?_
            case hym2_1 => (intro w0 hSw; (try dsimp only at hSw); go_simp; (try with_reducible rfl); (try assumption))
            try simp only [Act.put, List.setIfInBounds_toArray, List.set_cons_zero, List.set_cons_succ]
            refine wpAnyH_take (i := 2) (v := ?vm2_2) (by conv => lhs; simp only [List.getElem?_toArray, List.getElem?_cons_succ, List.getElem?_cons_zero]) (by kernel_rfl) (by kernel_rfl) (by kernel_rfl) (by exact fun _ _ _ h => h) (Or.inl ⟨by rfl, ?hym2_2⟩) (by assumption) ?_
            case hym2_2 => (intro w0 hSw; (try dsimp only at hSw); go_simp; (try with_reducible rfl); (try assumption))
            try simp only [Act.put, List.setIfInBounds_toArray, List.set_cons_zero, List.set_cons_succ]
            refine wpAnyH_take (i := 3) (v := ?vm2_3) (by conv => lhs; simp only [List.getElem?_toArray, List.getElem?_cons_succ, List.getElem?_cons_zero]) (by kernel_rfl) (by kernel_rfl) (by kernel_rfl) (by exact fun _ _ _ h => h) (Or.inl ⟨by rfl, ?hym2_3⟩) (by assumption) ?_
            case hym2_3 => (intro w0 hSw; (try dsimp only at hSw); go_simp; (try with_reducible rfl); (try assumption))
            try simp only [Act.put, List.setIfInBounds_toArray, List.set_cons_zero, List.set_cons_succ]
            refine wpAnyH_take (i := 4) (v := ?vm2_4) (by conv => lhs; simp only [List.getElem?_toArray, List.getElem?_cons_succ, List.getElem?_cons_zero]) (by kernel_rfl) (by kernel_rfl) (by kernel_rfl) (by exact fun _ _ _ h => h) (Or.inl ⟨by rfl, ?hym2_4⟩) (by assumption) ?_
            case hym2_4 => (intro w0 hSw; (try dsimp only at hSw); go_simp; (try with_reducible rfl); (try assumption))
            try simp only [Act.put, List.setIfInBounds_toArray, List.set_cons_zero, List.set_cons_succ]
            refine wpAnyH_take (i := 5) (v := ?vm2_5) (by conv => lhs; simp only [List.getElem?_toArray, List.getElem?_cons_succ, List.getElem?_cons_zero]) (by kernel_rfl) (by kernel_rfl) (by kernel_rfl) (by exact fun _ _ _ h => h) (Or.inl ⟨by rfl, ?hym2_5⟩) (by assumption) ?_
            case hym2_5 => (intro w0 hSw; (try dsimp only at hSw); go_simp; (try with_reducible rfl); (try assumption))
            try simp only [Act.put, List.setIfInBounds_toArray, List.set_cons_zero, List.set_cons_succ]
            refine wpAnyH_take (i := 6) (v := ?vm2_6) (by conv => lhs; simp only [List.getElem?_toArray, List.getElem?_cons_succ, List.getElem?_cons_zero]) (by kernel_rfl) (by kernel_rfl) (by kernel_rfl) (by exact fun _ _ _ h => h) (Or.inl ⟨by rfl, ?hym2_6⟩) (by assumption) ?_
            case hym2_6 => (intro w0 hSw; (try dsimp only at hSw); go_simp; (try with_reducible rfl); (try assumption))
            try simp only [Act.put, List.setIfInBounds_toArray, List.set_cons_zero, List.set_cons_succ]
            refine wpAnyH_take (i := 7) (v := ?vm2_7) (by conv => lhs; simp only [List.getElem?_toArray, List.getElem?_cons_succ, List.getElem?_cons_zero]) (by kernel_rfl) (by kernel_rfl) (by kernel_rfl) (by exact fun _ _ _ h => h) (Or.inl ⟨by rfl, ?hym2_7⟩) (by assumption) ?_
            case hym2_7 => (intro w0 hSw; (try dsimp only at hSw); go_simp; (try with_reducible rfl); (try assumption))
            try simp only [Act.put, List.setIfInBounds_toArray, List.set_cons_zero, List.set_cons_succ]
            refine wpAnyH_ready (rs := [8]) (by kernel_rfl) (by simp) ?_
            refine AllReadyH.cons (by conv => lhs; simp only [List.getElem?_toArray, List.getElem?_cons_succ, List.getElem?_cons_zero]) (fun K hK => ?_) AllReadyH.nil
            go_simp
            refine (CS.out _ (HRY.out.keep (Below.refl wr.heap.size wr).drew) (HTQ.out.any.keep (Below.refl wr.heap.size wr).drew)).mono ?_
            rintro e w9 ⟨rfl, hb9⟩
            have HB9 := Lib.hid (Below.next (Below.refl wr.heap.size wr).drew hb9)
            clear hb9
            go_wp2_with fail
            refine hK.out _ _ (by exact ⟨(HXQ.out.blk.keep HB9.out).cell, (HTQ.out.blk.keep HB9.out).cell, ((HB9.out).cell hbl).trans d0, ((HB9.out).cell hbl).trans d1, ((HB9.out).cell hbl).trans d2, ((HB9.out).cell hbl).trans d3, ((HB9.out).cell hbl).trans d4, ((HB9.out).cell hbl).trans d5⟩) (fun hHeld => ?_)
            clear hK K
            try simp only [Act.put, List.setIfInBounds_toArray, List.set_cons_zero, List.set_cons_succ]
            refine wpAnyH_take (i := 9) (v := .bool true) (by conv => lhs; simp only [List.getElem?_toArray, List.getElem?_cons_succ, List.getElem?_cons_zero]) (by kernel_rfl) (by kernel_rfl) (by kernel_rfl) (by exact fun _ _ _ h => h) (Or.inl ⟨by rfl, ?hym3_9⟩) (by assumption) ?_
            case hym3_9 => (intro w0 hSw; (try dsimp only at hSw); go_simp; (try with_reducible rfl); (try assumption))
            try simp only [Act.put, List.setIfInBounds_toArray, List.set_cons_zero, List.set_cons_succ]
            refine wpAnyH_take (i := 10) (v := ?vm3_10) (by conv => lhs; simp only [List.getElem?_toArray, List.getElem?_cons_succ, List.getElem?_cons_zero]) (by kernel_rfl) (by kernel_rfl) (by kernel_rfl) (by exact fun _ _ _ h => h) (Or.inl ⟨by rfl, ?hym3_10⟩) (by assumption) ?_
            case hym3_10 => (intro w0 hSw; (try dsimp only at hSw); go_simp; (try with_reducible rfl); (try assumption))
            try simp only [Act.put, List.setIfInBounds_toArray, List.set_cons_zero, List.set_cons_succ]
            refine wpAnyH_done (by kernel_rfl) ?_ _
            go_wp2_with fail
            go_roundw
            case rel => exact ⟨q + 1, by omega, by go_num, by rw [HZ.out], Lib.hid (HBQ.out.trans (HB9.out.mono HBQ.out.size))⟩
            case measure => simp [Lib.intOf]; omega
          | false =>
            have HZ := Lib.hid hz
            clear hz
            refine wp_region_held_drew (S := (fun w' => (∀ i, w'.cell? ⟨nx, i, none⟩ = (#[.int .i64 x.kind, .bool x.bool, .int .i64 x.int, .string x.str, .slice (some ⟨bl, ol, none⟩) x.list.length qc, .slice qm x.map.length qn] : Array Value)[i]?) ∧ (∀ i, w'.cell? ⟨n6, i, none⟩ = (#[.int .i64 t.kind, .bool t.bool, .int .i64 t.int, .string t.str, .slice la t.list.length lc, .slice ma t.map.length mc] : Array Value)[i]?) ∧ w'.cell? ⟨bl, ol + q * 6, none⟩ = some (.int .i64 y.kind) ∧ w'.cell? ⟨bl, ol + q * 6 + 1, none⟩ = some (.bool y.bool) ∧ w'.cell? ⟨bl, ol + q * 6 + 2, none⟩ = some (.int .i64 y.int) ∧ w'.cell? ⟨bl, ol + q * 6 + 3, none⟩ = some (.string y.str) ∧ w'.cell? ⟨bl, ol + q * 6 + 4, none⟩ = some (.slice yla y.list.length ylc) ∧ w'.cell? ⟨bl, ol + q * 6 + 5, none⟩ = some (.slice yma y.map.length ymc))) (by kernel_rfl) (by exact ⟨(HXQ.out.blk.keep (Below.refl wr.heap.size wr).drew).cell, (HTQ.out.blk.keep (Below.refl wr.heap.size wr).drew).cell, (((Below.refl wr.heap.size wr).drew).cell hbl).trans d0, (((Below.refl wr.heap.size wr).drew).cell hbl).trans d1, (((Below.refl wr.heap.size wr).drew).cell hbl).trans d2, (((Below.refl wr.heap.size wr).drew).cell hbl).trans d3, (((Below.refl wr.heap.size wr).drew).cell hbl).trans d4, (((Below.refl wr.heap.size wr).drew).cell hbl).trans d5⟩) (fun hHeld => ?_)
            refine wpAnyH_take (i := 0) (v := .bool false) (by conv => lhs; simp only [List.getElem?_toArray, List.getElem?_cons_succ, List.getElem?_cons_zero]) (by kernel_rfl) (by kernel_rfl) (by kernel_rfl) (by exact fun _ _ _ h => h) (Or.inl ⟨by rfl, ?hym4_0⟩) (by assumption) ?_
            case hym4_0 => (intro w0 hSw; (try dsimp only at hSw); go_simp; (try with_reducible rfl); (try assumption))
            try simp only [Act.put, List.setIfInBounds_toArray, List.set_cons_zero, List.set_cons_succ]
            refine wpAnyH_take (i := 1) (v := .bool false) (by conv => lhs; simp only [List.getElem?_toArray, List.getElem?_cons_succ, List.getElem?_cons_zero]) (by kernel_rfl) (by kernel_rfl) (by kernel_rfl) (by exact fun _ _ _ h => h) (Or.inl ⟨by rfl, ?hym4_1⟩) (by assumption) ?_
            case hym4_1 => (intro w0 hSw; (try dsimp only at hSw); go_simp; (try with_reducible rfl); (try assumption))
            try simp only [Act.put, List.setIfInBounds_toArray, List.set_cons_zero, List.set_cons_succ]
            refine wpAnyH_take (i := 2) (v := ?vm4_2) (by conv => lhs; simp only [List.getElem?_toArray, List.getElem?_cons_succ, List.getElem?_cons_zero]) (by kernel_rfl) (by kernel_rfl) (by kernel_rfl) (by exact fun _ _ _ h => h) (Or.inl ⟨by rfl, ?hym4_2⟩) (by assumption) ?_
            case hym4_2 => (intro w0 hSw; (try dsimp only at hSw); go_simp; (try with_reducible rfl); (try assumption))
            try simp only [Act.put, List.setIfInBounds_toArray, List.set_cons_zero, List.set_cons_succ]
            refine wpAnyH_take (i := 3) (v := ?vm4_3) (by conv => lhs; simp only [List.getElem?_toArray, List.getElem?_cons_succ, List.getElem?_cons_zero]) (by kernel_rfl) (by kernel_rfl) (by kernel_rfl) (by exact fun _ _ _ h => h) (Or.inl ⟨by rfl, ?hym4_3⟩) (by assumption) ?_
            case hym4_3 => (intro w0 hSw; (try dsimp only at hSw); go_simp; (try with_reducible rfl); (try assumption))
            try simp only [Act.put, List.setIfInBounds_toArray, List.set_cons_zero, List.set_cons_succ]
            refine wpAnyH_take (i := 4) (v := ?vm4_4) (by conv => lhs; simp only [List.getElem?_toArray, List.getElem?_cons_succ, List.getElem?_cons_zero]) (by kernel_rfl) (by kernel_rfl) (by kernel_rfl) (by exact fun _ _ _ h => h) (Or.inl ⟨by rfl, ?hym4_4⟩) (by assumption) ?_
            case hym4_4 => (intro w0 hSw; (try dsimp only at hSw); go_simp; (try with_reducible rfl); (try assumption))
            try simp only [Act.put, List.setIfInBounds_toArray, List.set_cons_zero, List.set_cons_succ]
            refine wpAnyH_take (i := 5) (v := ?vm4_5) (by conv => lhs; simp only [List.getElem?_toArray, List.getElem?_cons_succ, List.getElem?_cons_zero]) (by kernel_rfl) (by kernel_rfl) (by kernel_rfl) (by exact fun _ _ _ h => h) (Or.inl ⟨by rfl, ?hym4_5⟩) (by assumption) ?_
            case hym4_5 => (intro w0 hSw; (try dsimp only at hSw); go_simp; (try with_reducible rfl); (try assumption))
            try simp only [Act.put, List.setIfInBounds_toArray, List.set_cons_zero, List.set_cons_succ]
            refine wpAnyH_take (i := 6) (v := ?vm4_6) (by conv => lhs; simp only [List.getElem?_toArray, List.getElem?_cons_succ, List.getElem?_cons_zero]) (by kernel_rfl) (by kernel_rfl) (by kernel_rfl) (by exact fun _ _ _ h => h) (Or.inl ⟨by rfl, ?hym4_6⟩) (by assumption) ?_
            case hym4_6 => (intro w0 hSw; (try dsimp only at hSw); go_simp; (try with_reducible rfl); (try assumption))
            try simp only [Act.put, List.setIfInBounds_toArray, List.set_cons_zero, List.set_cons_succ]
            refine wpAnyH_take (i := 7) (v := ?vm4_7) (by conv => lhs; simp only [List.getElem?_toArray, List.getElem?_cons_succ, List.getElem?_cons_zero]) (by kernel_rfl) (by kernel_rfl) (by kernel_rfl) (by exact fun _ _ _ h => h) (Or.inl ⟨by rfl, ?hym4_7⟩) (by assumption) ?_
            case hym4_7 => (intro w0 hSw; (try dsimp only at hSw); go_simp; (try with_reducible rfl); (try assumption))
            try simp only [Act.put, List.setIfInBounds_toArray, List.set_cons_zero, List.set_cons_succ]
            refine wpAnyH_ready (rs := [8]) (by kernel_rfl) (by simp) ?_
            refine AllReadyH.cons (by conv => lhs; simp only [List.getElem?_toArray, List.getElem?_cons_succ, List.getElem?_cons_zero]) (fun K hK => ?_) AllReadyH.nil
            go_simp
            refine (CS.out _ (HRY.out.keep (Below.refl wr.heap.size wr).drew) (HTQ.out.any.keep (Below.refl wr.heap.size wr).drew)).mono ?_
            rintro e w9 ⟨rfl, hb9⟩
            have HB9 := Lib.hid (Below.next (Below.refl wr.heap.size wr).drew hb9)
            clear hb9
            go_wp2_with fail
            refine hK.out _ _ (by exact ⟨(HXQ.out.blk.keep HB9.out).cell, (HTQ.out.blk.keep HB9.out).cell, ((HB9.out).cell hbl).trans d0, ((HB9.out).cell hbl).trans d1, ((HB9.out).cell hbl).trans d2, ((HB9.out).cell hbl).trans d3, ((HB9.out).cell hbl).trans d4, ((HB9.out).cell hbl).trans d5⟩) (fun hHeld => ?_)
            clear hK K
            try simp only [Act.put, List.setIfInBounds_toArray, List.set_cons_zero, List.set_cons_succ]
            refine wpAnyH_take (i := 9) (v := .bool false) (by conv => lhs; simp only [List.getElem?_toArray, List.getElem?_cons_succ, List.getElem?_cons_zero]) (by kernel_rfl) (by kernel_rfl) (by kernel_rfl) (by exact fun _ _ _ h => h) (Or.inl ⟨by rfl, ?hym5_9⟩) (by assumption) ?_
            case hym5_9 => (intro w0 hSw; (try dsimp only at hSw); go_simp; (try with_reducible rfl); (try assumption))
            try simp only [Act.put, List.setIfInBounds_toArray, List.set_cons_zero, List.set_cons_succ]
            refine wpAnyH_take (i := 10) (v := ?vm5_10) (by conv => lhs; simp only [List.getElem?_toArray, List.getElem?_cons_succ, List.getElem?_cons_zero]) (by kernel_rfl) (by kernel_rfl) (by kernel_rfl) (by exact fun _ _ _ h => h) (Or.inl ⟨by rfl, ?hym5_10⟩) (by assumption) ?_
            case hym5_10 => (intro w0 hSw; (try dsimp only at hSw); go_simp; (try with_reducible rfl); (try assumption))
            try simp only [Act.put, List.setIfInBounds_toArray, List.set_cons_zero, List.set_cons_succ]
            refine wpAnyH_done (by kernel_rfl) ?_ _
            go_wp2_with fail
            go_roundw
            case rel => exact ⟨q + 1, by omega, by go_num, by rw [HZ.out], Lib.hid (HBQ.out.trans (HB9.out.mono HBQ.out.size))⟩
            case measure => simp [Lib.intOf]; omega
      · have hq' : q = x.list.length := by omega
        subst hq'
        rw [List.take_length]
        have HCQ := Lib.hid (HCA.out.keep HBQ.out)
        have HLQ := Lib.hid (show RepS wr (fun b => Sl b ∧ b < w.heap.size) a l from HL0.out.mono (fun _ h _ => h) (fun b o _ hlt => HCQ.out.base.cell hlt))
        obtain ⟨b, hb⟩ : ∃ b, b = (x.list.any fun y => decide (T.cmp y t = 0)) := ⟨_, rfl⟩
        rw [← hb] at HLF0 ⊢
        clear hb
        cases b with
        | true =>
          have HLF := Lib.hid (show oneF s t l = [] from by rw [HLF0.out]; rfl)
          go_wp2_with fail
          rw [show N.length = (N ++ oneF s t l).length from by rw [HLF.out, List.append_nil]]
          exact HQ.out A c _ _ _ _ _ _ _ _ _ _ _ _ _ _ _ _ _ _ _ _ _ _ _ _ _ _ _ _ _ _ _ _ _ _ _ (by rw [HLF.out, List.append_nil]; exact Lib.hid (HCQ.out))
        | false =>
          have HLF := Lib.hid (show oneF s t l = [(6, l)] from by rw [HLF0.out]; rfl)
          go_upto_region 22 with fail
          clear k3 l3
          obtain ⟨A3, c3, w3, hrun, hf3, hg3⟩ := flaw_append 6 (ac := ac) HCQ.out.fl HLQ.out HCQ.out.came (by have := hN; omega) (Nat.le_trans HB0.out.size HCQ.out.base.size)
          rw [show [(6, l)] = oneF s t l from HLF.out.symm] at hrun hf3 hg3
          obtain ⟨N9, hN9⟩ : ∃ z, z = N ++ oneF s t l := ⟨_, rfl⟩
          rw [← hN9] at hrun hf3 hg3
          have RUN := Lib.hid hrun; have HF3 := Lib.hid hf3; have HG3 := Lib.hid hg3; have HN9 := Lib.hid hN9
          clear hrun hf3 hg3 hN9
          go_wp2_with (at_builtin; refine wpList_append_run rfl (.tmp 141) (.tmp 144) 34 rfl RUN.out rfl rfl ?_)
          rw [HN9.out]
          exact HQ.out A3 c3 _ _ _ _ _ _ _ _ _ _ _ _ _ _ _ _ _ _ _ _ _ _ _ _ _ _ _ _ _ _ _ _ _ _ _ (by rw [← HN9.out]; exact Lib.hid (HCQ.out.step HF3.out HG3.out))

set_option maxRecDepth 100000 in
set_option maxHeartbeats 32000000 in
theorem rc_items {t s : T} {l : List ByteArray} {a : Option Addr} {ac : Nat} {sla : Option Addr} {slc : Nat} {sma : Option Addr} {smc : Nat} {la : Option Addr} {lc : Nat} {ma : Option Addr} {mc : Nat} {w W0 wc : World} {Sl : Nat → Prop} {n5 n6 : Nat} {K9 : Act → World → Prop} {post : Ending → World → Prop} {A : Option Addr} {c : Nat} {N : List FlawT}  {u0 u1 u5 u6 u8 u9 u10 u11 u12 u13 u14 u15 u16 u17 u18 u19 u20 u21 u22 u23 u24 u25 u26 u27 u28 u29 u30 u31 u32 u33 u34 u35 u36 u37 u38 u39 u40 u41 u42 u43 u44 u45 u46 u47 u48 u49 u50 u51 u52 u53 u54 u55 u56 u57 u58 u59 u60 u61 u62 u63 u64 u65 u66 u67 u68 u69 u70 u71 u72 u73 u74 u75 u76 u77 u78 u79 u80 u81 u82 u83 u84 u85 u86 u87 u88 u89 u90 u91 u92 u93 u94 u95 u96 u97 u98 u99 u100 u101 u102 u103 u104 u105 u106 u107 u108 u109 u110 u111 u112 u113 u114 u115 u116 u117 u118 u119 u120 u121 u122 u123 u124 u125 u126 u127 u128 u129 u130 u131 u132 u133 u134 u135 u136 u137 u138 u139 u140 u141 u142 u143 u144 u145 u146 u147 u148 u149 u150 u151 u152 u153 u154 u155 u156 u157 u158 u159 u160 u161 u162 u163 u164 u165 u166 u167 u168 u169 u170 u171 u172 u173 u174 u175 u176 u177 u178 u179 u180 u181 u182 u183 u184 u185 u186 u187 u188 u189 u190 u191 u192 u193 u194 u195 u196 u197 u198 u199 u200 u201 u202 u203 u204 u205 u206 u207 u208 u209 u210 u211 u212 u213 u214 u215 u216 u217 u218 u219 u220 u221 u222 u223 u224 u225 u226 u227 u228 u229 u230 u231 u232 u233 u234 u235 u236 u237 u238 u239 u240 u241 u242 u243 u244 u245 u246 u247 u248 u249 u250 u251 u252 u253 u254 u255 u256 u257 u258 u259 u260 u261 u262 u263 u264 u265 u266 u267 u268 u269 u270 u271 u272 u273 u274 : Value} (hbase : RBase w W0 Sl a l n5 s sla slc sma smc n6 t la lc ma mc) (HC : Hid (RC w W0 wc Sl A c N)) (hfs : FineT s) (hft : FineT t) (hLI : ∀ x ∈ t.list, RCheckOk x) (hln : l.length + t.wt ≤ 1000000) (hT : N.length + (T.chkL t.list (getT s itemsW) 0 l).length ≤ 999999000)
    (hQ : ∀ (A' : Option Addr) (c' : Nat) (wx : World) (v19 v20 v21 v146 v147 v148 v149 v150 v151 v152 v153 v154 v155 v156 v157 v158 v159 v160 v161 v162 v163 v164 v165 v166 v167 v168 v169 v170 v171 : Value), Hid (RC w W0 wx Sl A' c' (N ++ T.chkL t.list (getT s itemsW) 0 l)) → K9 ⟨#[u0, u1, .slice a l.length ac, .pointer (some ⟨n5, 0, none⟩), .pointer (some ⟨n6, 0, none⟩), u5, u6, .slice A' (N ++ T.chkL t.list (getT s itemsW) 0 l).length c', u8, u9, u10, u11, u12, u13, u14, u15, u16, u17, u18, v19, v20, v21, u22, u23, u24, u25, u26, u27, u28, u29, u30, u31, u32, u33, u34, u35, u36, u37, u38, u39, u40, u41, u42, u43, u44, u45, u46, u47, u48, u49, u50, u51, u52, u53, u54, u55, u56, u57, u58, u59, u60, u61, u62, u63, u64, u65, u66, u67, u68, u69, u70, u71, u72, u73, u74, u75, u76, u77, u78, u79, u80, u81, u82, u83, u84, u85, u86, u87, u88, u89, u90, u91, u92, u93, u94, u95, u96, u97, u98, u99, u100, u101, u102, u103, u104, u105, u106, u107, u108, u109, u110, u111, u112, u113, u114, u115, u116, u117, u118, u119, u120, u121, u122, u123, u124, u125, u126, u127, u128, u129, u130, u131, u132, u133, u134, u135, u136, u137, u138, u139, u140, u141, u142, u143, u144, u145, v146, v147, v148, v149, v150, v151, v152, v153, v154, v155, v156, v157, v158, v159, v160, v161, v162, v163, v164, v165, v166, v167, v168, v169, v170, v171, u172, u173, u174, u175, u176, u177, u178, u179, u180, u181, u182, u183, u184, u185, u186, u187, u188, u189, u190, u191, u192, u193, u194, u195, u196, u197, u198, u199, u200, u201, u202, u203, u204, u205, u206, u207, u208, u209, u210, u211, u212, u213, u214, u215, u216, u217, u218, u219, u220, u221, u222, u223, u224, u225, u226, u227, u228, u229, u230, u231, u232, u233, u234, u235, u236, u237, u238, u239, u240, u241, u242, u243, u244, u245, u246, u247, u248, u249, u250, u251, u252, u253, u254, u255, u256, u257, u258, u259, u260, u261, u262, u263, u264, u265, u266, u267, u268, u269, u270, u271, u272, u273, u274], []⟩ wx) :
    Code.wp Tryd.prog (chk25 8) (Exit.then K9 (bodyPost Tryd.prog Tryd.f10 post)) ⟨#[u0, u1, .slice a l.length ac, .pointer (some ⟨n5, 0, none⟩), .pointer (some ⟨n6, 0, none⟩), u5, u6, .slice A N.length c, u8, u9, u10, u11, u12, u13, u14, u15, u16, u17, u18, u19, u20, u21, u22, u23, u24, u25, u26, u27, u28, u29, u30, u31, u32, u33, u34, u35, u36, u37, u38, u39, u40, u41, u42, u43, u44, u45, u46, u47, u48, u49, u50, u51, u52, u53, u54, u55, u56, u57, u58, u59, u60, u61, u62, u63, u64, u65, u66, u67, u68, u69, u70, u71, u72, u73, u74, u75, u76, u77, u78, u79, u80, u81, u82, u83, u84, u85, u86, u87, u88, u89, u90, u91, u92, u93, u94, u95, u96, u97, u98, u99, u100, u101, u102, u103, u104, u105, u106, u107, u108, u109, u110, u111, u112, u113, u114, u115, u116, u117, u118, u119, u120, u121, u122, u123, u124, u125, u126, u127, u128, u129, u130, u131, u132, u133, u134, u135, u136, u137, u138, u139, u140, u141, u142, u143, u144, u145, u146, u147, u148, u149, u150, u151, u152, u153, u154, u155, u156, u157, u158, u159, u160, u161, u162, u163, u164, u165, u166, u167, u168, u169, u170, u171, u172, u173, u174, u175, u176, u177, u178, u179, u180, u181, u182, u183, u184, u185, u186, u187, u188, u189, u190, u191, u192, u193, u194, u195, u196, u197, u198, u199, u200, u201, u202, u203, u204, u205, u206, u207, u208, u209, u210, u211, u212, u213, u214, u215, u216, u217, u218, u219, u220, u221, u222, u223, u224, u225, u226, u227, u228, u229, u230, u231, u232, u233, u234, u235, u236, u237, u238, u239, u240, u241, u242, u243, u244, u245, u246, u247, u248, u249, u250, u251, u252, u253, u254, u255, u256, u257, u258, u259, u260, u261, u262, u263, u264, u265, u266, u267, u268, u269, u270, u271, u272, u273, u274], []⟩ wc := by
  have HQ := Lib.hid hQ
  obtain ⟨hB0, hL0, hS0, hT0, hps, hpt⟩ := hbase
  have HB0 := Lib.hid hB0; have HL0 := Lib.hid hL0; have HS0 := Lib.hid hS0; have HT0 := Lib.hid hT0
  clear hQ hB0 hL0 hS0 hT0
  conv => arg 2; whnf
  have HFS := Lib.hid hfs; have HFT := Lib.hid hft; have HLI := Lib.hid hLI; have HLN := Lib.hid hln; have HTOT := Lib.hid hT
  clear hfs hft hLI hln hT
  have HSk := Lib.hid (HS0.out.gro HC.out.gro (fun e => by cases e) (fun _ e => by cases e)); have HTk := Lib.hid (HT0.out.gro HC.out.gro (fun e => by cases e) (fun _ e => by cases e))
  have k1 := HSk.out.blk.cell; have l1 := HSk.out.blk.lt
  go_wp2_with fail
  refine (rget25 hps _ itemsW _ _ HSk.out.rep).mono ?_
  rintro e wb ⟨v1, rfl, hr1, hb1⟩
  obtain ⟨qa, qc, qm, qn, rfl, -⟩ := hr1.inv
  obtain ⟨o, ho⟩ : ∃ o, o = getT s itemsW := ⟨_, rfl⟩
  have HO := Lib.hid ho
  have HWb := Lib.hid hb1
  rw [← ho]
  rw [← ho] at hr1
  obtain ⟨x, hx⟩ : ∃ z, z = o.getD T.zero := ⟨_, rfl⟩
  rw [← hx] at hr1
  rw [← hx]
  have HXX := Lib.hid hx
  have hnb := HWb.out.alloc HWb.out.size (.cells #[.int .i64 x.kind, .bool x.bool, .int .i64 x.int, .string x.str, .slice qa x.list.length qc, .slice qm x.map.length qn] 25)
  have HBA := Lib.hid hnb
  have HXB := Lib.hid (show RBox W0 (wb.alloc (.cells #[.int .i64 x.kind, .bool x.bool, .int .i64 x.int, .string x.str, .slice qa x.list.length qc, .slice qm x.map.length qn] 25)) wb.heap.size x qa qc qm qn from ⟨Blk.new _ _ _, hr1.keep (Below.new _ _)⟩)
  have HNX := Lib.hid HWb.out.size
  have HCA0 := Lib.hid (HC.out.fl.ne (k := wb.heap.size) (.inr HWb.out.size)); have HTA := Lib.hid (HTk.out.keep hnb); have HCA := Lib.hid (HC.out.keep hnb); have HLA := Lib.hid (show RepS (wb.alloc (.cells #[.int .i64 x.kind, .bool x.bool, .int .i64 x.int, .string x.str, .slice qa x.list.length qc, .slice qm x.map.length qn] 25)) (fun b => Sl b ∧ b < w.heap.size) a l from HL0.out.mono (fun _ h _ => h) (fun b o _ hlt => ((HC.out.keep hnb).base).cell hlt))
  clear hr1 hb1 k1 l1 ho hx hnb HWb
  cases o with
  | none =>
    have HLF := Lib.hid (show T.chkL t.list (getT s itemsW) 0 l = [] from by rw [← HO.out, chkL_none])
    clear HO
    go_wp2_with fail
    rw [show N.length = (N ++ T.chkL t.list (getT s itemsW) 0 l).length from by rw [HLF.out, List.append_nil]]
    exact HQ.out A c _ _ _ _ _ _ _ _ _ _ _ _ _ _ _ _ _ _ _ _ _ _ _ _ _ _ _ _ _ _ (by rw [HLF.out, List.append_nil]; exact Lib.hid (HCA.out))
  | some x0 =>
    obtain rfl : x = x0 := HXX.out
    have HFX := Lib.hid (HFS.out.getT HO.out.symm)
    have HIT := Lib.hid HO.out.symm
    clear HO
    go_upto_region 24 with fail
    obtain ⟨WA, eA⟩ : ∃ z, z = wb.alloc (.cells #[.int .i64 x.kind, .bool x.bool, .int .i64 x.int, .string x.str, .slice qa x.list.length qc, .slice qm x.map.length qn] 25) := ⟨_, rfl⟩
    obtain ⟨nx, en⟩ : ∃ z, z = wb.heap.size := ⟨_, rfl⟩
    rw [← eA] at HXB HTA HCA HLA HBA
    rw [← en] at HXB HCA0
    rw [← eA, ← en]
    clear eA en
    rw [HIT.out] at HTOT
    rw [HIT.out] at HQ
    have HRX := Lib.hid (show Value.ownBlock (.slice A N.length c) ≠ some nx from HCA0.out)
    have k2 := HTA.out.blk.cell; have l2 := HTA.out.blk.lt
    have ht6 : t.list.length ≤ 1000000 := by have h1 := wt_list t; have h2 := HFT.out.2; omega
    go_wp2_with fail
    go_loopw [7, 21] (fun x7 x21 wr => ∃ (q : Nat) (A' : Option Addr) (c' : Nat), q ≤ t.list.length ∧ x21 = .int .i64 q ∧ x7 = .slice A' (N ++ T.chkL (t.list.take q) (some x) 0 l).length c' ∧ Hid (RC w W0 wr Sl A' c' (N ++ T.chkL (t.list.take q) (some x) 0 l)) ∧ Hid (Gro WA wr (Value.ownBlock (.slice A N.length c)) (Value.ownBlock (.slice A' (N ++ T.chkL (t.list.take q) (some x) 0 l).length c')))) (fun _ x21 _ => t.list.length - (Lib.intOf x21).toNat)
    case atStart => exact ⟨0, A, c, Nat.zero_le _, rfl, by rw [List.take_zero, T.chkL, List.append_nil], Lib.hid (by rw [List.take_zero, T.chkL, List.append_nil]; exact HCA.out), Lib.hid (by rw [List.take_zero, T.chkL, List.append_nil]; exact Gro.refl _ _)⟩
    case round =>
      clear k2 l2
      obtain ⟨q, A2, c2, hq, rfl, rfl, HXr, HGr⟩ := hrel
      obtain ⟨N2, hN2⟩ : ∃ z, z = N ++ T.chkL (t.list.take q) (some x) 0 l := ⟨_, rfl⟩
      rw [← hN2] at HXr HGr ⊢
      have HN2 := Lib.hid hN2
      clear hN2
      have HTQ := Lib.hid (HT0.out.gro HXr.out.gro (fun e => by cases e) (fun _ e => by cases e)); have HXQ := Lib.hid (HXB.out.gro HGr.out HRX.out HCA.out.row)
      have HLQ := Lib.hid (show RepS wr (fun b => Sl b ∧ b < w.heap.size) a l from HL0.out.mono (fun _ h _ => h) (fun b o _ hlt => HXr.out.base.cell hlt))
      have k2 := HTQ.out.blk.cell; have l2 := HTQ.out.blk.lt
      by_cases hlt : q < t.list.length
      · have HTL := HTQ.out.rep.lay.2.2.2.2.2.2.2.2.2.1
        obtain ⟨bl, ol, yla, ylc, yma, ymc, rfl, haw, hbl, ⟨d0, d1, d2, d3, d4, d5⟩, hr⟩ := HTL.at_ hlt
        have hz : T.chkL (t.list.take (q + 1)) (some x) 0 l = T.chkL (t.list.take q) (some x) 0 l ++ t.list[q].chk x (l ++ [itoaB q]) := by rw [chkL_take _ _ _ _ _ hlt, Nat.zero_add]; rfl
        have hbd : N2.length + (t.list[q].chk x (l ++ [itoaB q])).length ≤ 999999000 := by
          have h1 := congrArg List.length HN2.out; have h2 := chkL_len t.list (some x) l 0 (q + 1); rw [hz] at h2; have h3 := HTOT.out; simp only [List.length_append] at *; omega
        have hfy := HFT.out.list (List.getElem_mem hlt)
        have hwy := list_wtF (List.getElem_mem hlt)
        have hcx := HLI.out _ (List.getElem_mem hlt)
        have hq6 : q ≤ 1000000 := by omega
        generalize t.list[q] = y at d0 d1 d2 d3 d4 d5 hr hz hfy hwy hcx hbd
        obtain ⟨l2', hl2⟩ : ∃ z, z = l ++ [itoaB q] := ⟨_, rfl⟩
        rw [← hl2] at hz hbd
        have hln9 : l.length ≤ 1000000 := by have := HLN.out; omega
        have CM := Lib.hid (fun w2 (h : RepS w2 (fun b => Sl b ∧ b < w.heap.size) a l) => show Calls Tryd.prog 23 #[.slice a l.length ac, .string (itoaB q)] w2 (fun e w' => ∃ A' c', e = .returned (.slice A' l2'.length c') ∧ OwnE eltS w' w2.heap.size (fun _ => True) A' c' l2' ∧ Below w2.heap.size w2 w') from by rw [hl2]; exact rmore l (itoaB q) a ac w2 _ h hln9 (itoaB_size q hq6))
        have HZ := Lib.hid (show N ++ T.chkL (t.list.take (q + 1)) (some x) 0 l = N2 ++ y.chk x l2' from by rw [hz, HN2.out, List.append_assoc])
        have HBD := Lib.hid (show (y.chk x l2').length ≤ 999999000 from by omega); have HBD2 := Lib.hid hbd; have HL2 := Lib.hid hl2; have HFY := Lib.hid hfy; have HWY := Lib.hid hwy; have HCX := Lib.hid hcx
        have HRY := Lib.hid (hr.weak (S' := fun _ => True) (fun _ _ _ => trivial))
        clear hz hbd hfy hwy hcx hl2 hr HTL HN2
        go_upto_region 28 with fail
        clear k2 l2
        refine wp_region_tail (S := (fun w' => (∀ i, w'.cell? ⟨nx, i, none⟩ = (#[.int .i64 x.kind, .bool x.bool, .int .i64 x.int, .string x.str, .slice qa x.list.length qc, .slice qm x.map.length qn] : Array Value)[i]?) ∧ (∀ i, w'.cell? ⟨n6, i, none⟩ = (#[.int .i64 t.kind, .bool t.bool, .int .i64 t.int, .string t.str, .slice (some ⟨bl, ol, none⟩) t.list.length lc, .slice ma t.map.length mc] : Array Value)[i]?) ∧ w'.cell? ⟨bl, ol + q * 6, none⟩ = some (.int .i64 y.kind) ∧ w'.cell? ⟨bl, ol + q * 6 + 1, none⟩ = some (.bool y.bool) ∧ w'.cell? ⟨bl, ol + q * 6 + 2, none⟩ = some (.int .i64 y.int) ∧ w'.cell? ⟨bl, ol + q * 6 + 3, none⟩ = some (.string y.str) ∧ w'.cell? ⟨bl, ol + q * 6 + 4, none⟩ = some (.slice yla y.list.length ylc) ∧ w'.cell? ⟨bl, ol + q * 6 + 5, none⟩ = some (.slice yma y.map.length ymc))) 13 (by kernel_rfl) (by kernel_rfl) (by exact ⟨(HXQ.out.blk.keep (Below.refl wr.heap.size wr).drew).cell, (HTQ.out.blk.keep (Below.refl wr.heap.size wr).drew).cell, (((Below.refl wr.heap.size wr).drew).cell hbl).trans d0, (((Below.refl wr.heap.size wr).drew).cell hbl).trans d1, (((Below.refl wr.heap.size wr).drew).cell hbl).trans d2, (((Below.refl wr.heap.size wr).drew).cell hbl).trans d3, (((Below.refl wr.heap.size wr).drew).cell hbl).trans d4, (((Below.refl wr.heap.size wr).drew).cell hbl).trans d5⟩) (fun hHeld => ?_)
        simp only [List.dropLast]
        refine wpAnyH_take (i := 0) (v := ?vm6_0) (by conv => lhs; simp only [List.getElem?_toArray, List.getElem?_cons_succ, List.getElem?_cons_zero]) (by kernel_rfl) (by kernel_rfl) (by kernel_rfl) (by exact fun _ _ _ h => h) (Or.inl ⟨by rfl, ?hym6_0⟩) (by assumption) ?_
        case hym6_0 => (intro w0 hSw; (try dsimp only at hSw); go_simp; (try with_reducible rfl); (try assumption))
        try simp only [Act.put, List.setIfInBounds_toArray, List.set_cons_zero, List.set_cons_succ]
        refine wpAnyH_take (i := 1) (v := ?vm6_1) (by conv => lhs; simp only [List.getElem?_toArray, List.getElem?_cons_succ, List.getElem?_cons_zero]) (by kernel_rfl) (by kernel_rfl) (by kernel_rfl) (by exact fun _ _ _ h => h) (Or.inl ⟨by rfl, ?hym6_1⟩) (by assumption) ?_
        case hym6_1 => (intro w0 hSw; (try dsimp only at hSw); go_simp; (try with_reducible rfl); (try assumption))
        try simp only [Act.put, List.setIfInBounds_toArray, List.set_cons_zero, List.set_cons_succ]
        refine wpAnyH_take (i := 2) (v := ?vm6_2) (by conv => lhs; simp only [List.getElem?_toArray, List.getElem?_cons_succ, List.getElem?_cons_zero]) (by kernel_rfl) (by kernel_rfl) (by kernel_rfl) (by exact fun _ _ _ h => h) (Or.inl ⟨by rfl, ?hym6_2⟩) (by assumption) ?_
        case hym6_2 => (intro w0 hSw; (try dsimp only at hSw); go_simp; (try with_reducible rfl); (try assumption))
        try simp only [Act.put, List.setIfInBounds_toArray, List.set_cons_zero, List.set_cons_succ]
        refine wpAnyH_take (i := 3) (v := ?vm6_3) (by conv => lhs; simp only [List.getElem?_toArray, List.getElem?_cons_succ, List.getElem?_cons_zero]) (by kernel_rfl) (by kernel_rfl) (by kernel_rfl) (by exact fun _ _ _ h => h) (Or.inl ⟨by rfl, ?hym6_3⟩) (by assumption) ?_
        case hym6_3 => (intro w0 hSw; (try dsimp only at hSw); go_simp; (try with_reducible rfl); (try assumption))
        try simp only [Act.put, List.setIfInBounds_toArray, List.set_cons_zero, List.set_cons_succ]
        refine wpAnyH_take (i := 4) (v := ?vm6_4) (by conv => lhs; simp only [List.getElem?_toArray, List.getElem?_cons_succ, List.getElem?_cons_zero]) (by kernel_rfl) (by kernel_rfl) (by kernel_rfl) (by exact fun _ _ _ h => h) (Or.inl ⟨by rfl, ?hym6_4⟩) (by assumption) ?_
        case hym6_4 => (intro w0 hSw; (try dsimp only at hSw); go_simp; (try with_reducible rfl); (try assumption))
        try simp only [Act.put, List.setIfInBounds_toArray, List.set_cons_zero, List.set_cons_succ]
        refine wpAnyH_take (i := 5) (v := ?vm6_5) (by conv => lhs; simp only [List.getElem?_toArray, List.getElem?_cons_succ, List.getElem?_cons_zero]) (by kernel_rfl) (by kernel_rfl) (by kernel_rfl) (by exact fun _ _ _ h => h) (Or.inl ⟨by rfl, ?hym6_5⟩) (by assumption) ?_
        case hym6_5 => (intro w0 hSw; (try dsimp only at hSw); go_simp; (try with_reducible rfl); (try assumption))
        try simp only [Act.put, List.setIfInBounds_toArray, List.set_cons_zero, List.set_cons_succ]
        refine wpAnyH_take (i := 6) (v := ?vm6_6) (by conv => lhs; simp only [List.getElem?_toArray, List.getElem?_cons_succ, List.getElem?_cons_zero]) (by kernel_rfl) (by kernel_rfl) (by kernel_rfl) (by exact fun _ _ _ h => h) (Or.inl ⟨by rfl, ?hym6_6⟩) (by assumption) ?_
        case hym6_6 => (intro w0 hSw; (try dsimp only at hSw); go_simp; (try with_reducible rfl); (try assumption))
        try simp only [Act.put, List.setIfInBounds_toArray, List.set_cons_zero, List.set_cons_succ]
        refine wpAnyH_take (i := 7) (v := ?vm6_7) (by conv => lhs; simp only [List.getElem?_toArray, List.getElem?_cons_succ, List.getElem?_cons_zero]) (by kernel_rfl) (by kernel_rfl) (by kernel_rfl) (by exact fun _ _ _ h => h) (Or.inl ⟨by rfl, ?hym6_7⟩) (by assumption) ?_
        case hym6_7 => (intro w0 hSw; (try dsimp only at hSw); go_simp; (try with_reducible rfl); (try assumption))
        try simp only [Act.put, List.setIfInBounds_toArray, List.set_cons_zero, List.set_cons_succ]
        refine wpAnyH_take (i := 8) (v := ?vm6_8) (by conv => lhs; simp only [List.getElem?_toArray, List.getElem?_cons_succ, List.getElem?_cons_zero]) (by kernel_rfl) (by kernel_rfl) (by kernel_rfl) (by exact fun _ _ _ h => h) (Or.inl ⟨by rfl, ?hym6_8⟩) (by assumption) ?_
        case hym6_8 => (intro w0 hSw; (try dsimp only at hSw); go_simp; (try with_reducible rfl); (try assumption))
        try simp only [Act.put, List.setIfInBounds_toArray, List.set_cons_zero, List.set_cons_succ]
        refine wpAnyH_ready (rs := [9]) (by kernel_rfl) (by simp) ?_
        refine AllReadyH.cons (by conv => lhs; simp only [List.getElem?_toArray, List.getElem?_cons_succ, List.getElem?_cons_zero]) (fun K hK => ?_) AllReadyH.nil
        go_simp
        refine (rdigits (q : Int) (by unfold i64ok; omega) _).mono ?_
        rintro e w1 ⟨dv, rfl, hd, hb1⟩
        obtain rfl := itoaB_of hd
        have HB1 := Lib.hid (Below.next (Below.refl wr.heap.size wr).drew hb1)
        clear hb1 hd
        go_wp2_with fail
        refine hK.out _ _ (by exact ⟨(HXQ.out.blk.keep HB1.out).cell, (HTQ.out.blk.keep HB1.out).cell, ((HB1.out).cell hbl).trans d0, ((HB1.out).cell hbl).trans d1, ((HB1.out).cell hbl).trans d2, ((HB1.out).cell hbl).trans d3, ((HB1.out).cell hbl).trans d4, ((HB1.out).cell hbl).trans d5⟩) (fun hHeld => ?_)
        clear hK K
        try simp only [Act.put, List.setIfInBounds_toArray, List.set_cons_zero, List.set_cons_succ]
        refine wpAnyH_ready (rs := [10]) (by kernel_rfl) (by simp) ?_
        refine AllReadyH.cons (by conv => lhs; simp only [List.getElem?_toArray, List.getElem?_cons_succ, List.getElem?_cons_zero]) (fun K hK => ?_) AllReadyH.nil
        go_simp
        refine (CM.out _ (RepS.mono (w := wr) HLQ.out (fun _ h _ => h) (fun b o _ hlt => (HB1.out).cell hlt))).mono ?_
        rintro e w2 ⟨A5, c5, rfl, ho2, hb2⟩
        have HB2 := Lib.hid ((HB1.out).trans (hb2.mono (HB1.out).size)); have HO2 := Lib.hid ho2; have HS2 := Lib.hid (HB1.out).size
        clear ho2 hb2
        go_wp2_with fail
        refine hK.out _ _ (by exact ⟨(HXQ.out.blk.keep HB2.out).cell, (HTQ.out.blk.keep HB2.out).cell, ((HB2.out).cell hbl).trans d0, ((HB2.out).cell hbl).trans d1, ((HB2.out).cell hbl).trans d2, ((HB2.out).cell hbl).trans d3, ((HB2.out).cell hbl).trans d4, ((HB2.out).cell hbl).trans d5⟩) (fun hHeld => ?_)
        clear hK K
        try simp only [Act.put, List.setIfInBounds_toArray, List.set_cons_zero, List.set_cons_succ]
        refine wpAnyH_ready (rs := [11]) (by kernel_rfl) (by simp) ?_
        refine AllReadyH.cons (by conv => lhs; simp only [List.getElem?_toArray, List.getElem?_cons_succ, List.getElem?_cons_zero]) (fun K hK => ?_) AllReadyH.nil
        go_simp
        refine (HCX.out x l2' A5 c5 qa qc qm qn yla ylc yma ymc w2 _ ((HXQ.out.keep HB2.out).any) (HRY.out.keep HB2.out) HO2.out.repS HFX.out HFY.out (by have h1 := congrArg List.length HL2.out; have h2 := HWY.out; have h3 := HLN.out; simp only [List.length_append, List.length_singleton] at h1; omega) HBD.out).mono ?_
        rintro e w3 ⟨A6, c6, rfl, hf3, hb3⟩
        have HB3 := Lib.hid (HB2.out.trans (hb3.mono HB2.out.size)); have HF3 := Lib.hid hf3; have HS3 := Lib.hid HB2.out.size
        clear hf3 hb3
        go_wp2_with fail
        refine hK.out _ _ (by exact ⟨(HXQ.out.blk.keep HB3.out).cell, (HTQ.out.blk.keep HB3.out).cell, ((HB3.out).cell hbl).trans d0, ((HB3.out).cell hbl).trans d1, ((HB3.out).cell hbl).trans d2, ((HB3.out).cell hbl).trans d3, ((HB3.out).cell hbl).trans d4, ((HB3.out).cell hbl).trans d5⟩) (fun hHeld => ?_)
        clear hK K
        try simp only [Act.put, List.setIfInBounds_toArray, List.set_cons_zero, List.set_cons_succ]
        refine wpAnyH_ready (rs := [12]) (by kernel_rfl) (by simp) ?_
        refine AllReadyH.cons (by conv => lhs; simp only [List.getElem?_toArray, List.getElem?_cons_succ, List.getElem?_cons_zero]) (fun K hK => ?_) AllReadyH.nil
        obtain ⟨A7, c7, w4, hrun, hf4, hg4⟩ := flaw_spread (c2 := c6) (HXr.out.keep HB3.out).fl HF3.out.rep (fun b hb hlt => HXr.out.made HB0.out.size (S2 := fun b => wr.heap.size ≤ b) (fun _ h => h) (B := w3.heap.size) b (by rcases hb with (⟨⟨h, -⟩, -⟩ | h) | h; exact Nat.le_trans HS2.out h; exact Nat.le_trans HS3.out h; exact Nat.le_trans HS3.out h) hlt) (by have := HBD2.out; omega) (Nat.le_trans HB0.out.size (HXr.out.keep HB3.out).base.size)
        rw [← HZ.out] at hrun hf4 hg4
        have RUN := Lib.hid hrun; have HX4 := Lib.hid ((HXr.out.keep HB3.out).step hf4 hg4); have HG4 := Lib.hid ((HGr.out.trans (Gro.of HB3.out)).trans hg4)
        clear hrun hf4 hg4
        refine step_append_run rfl (.tmp 159) (.tmp 170) 34 rfl RUN.out rfl rfl ?_
        refine hK.out _ _ (by exact ⟨(HXB.out.gro HG4.out HRX.out HCA.out.row).blk.cell, (HT0.out.gro HX4.out.gro (fun e => by cases e) (fun _ e => by cases e)).blk.cell, (HX4.out.base.cell haw).trans ((HXr.out.base.cell haw).symm.trans d0), (HX4.out.base.cell haw).trans ((HXr.out.base.cell haw).symm.trans d1), (HX4.out.base.cell haw).trans ((HXr.out.base.cell haw).symm.trans d2), (HX4.out.base.cell haw).trans ((HXr.out.base.cell haw).symm.trans d3), (HX4.out.base.cell haw).trans ((HXr.out.base.cell haw).symm.trans d4), (HX4.out.base.cell haw).trans ((HXr.out.base.cell haw).symm.trans d5)⟩) (fun hHeld => ?_)
        clear hK K
        try simp only [Act.put, List.setIfInBounds_toArray, List.set_cons_zero, List.set_cons_succ]
        refine wpAnyH_done (by kernel_rfl) ?_ _
        refine LastQ.step (by conv => lhs; simp only [List.getElem?_toArray, List.getElem?_cons_succ, List.getElem?_cons_zero]) (fun K hK => ?_)
        go_simp
        refine hK.out _ _ ?_
        clear hK K
        try simp only [Act.put, List.setIfInBounds_toArray, List.set_cons_zero, List.set_cons_succ]
        go_wp2_with fail
        go_roundw
        case rel => exact ⟨q + 1, A7, c7, by omega, by go_num, by first | rfl | (rw [List.length_append]; done) | simp, HX4, HG4⟩
        case measure => simp [Lib.intOf]; omega
      · have hq' : q = t.list.length := by omega
        subst hq'
        rw [List.take_length] at HN2
        go_wp2_with fail
        rw [HN2.out]
        exact HQ.out A2 c2 _ _ _ _ _ _ _ _ _ _ _ _ _ _ _ _ _ _ _ _ _ _ _ _ _ _ _ _ _ _ (by rw [← HN2.out]; exact HXr)

set_option maxRecDepth 100000 in
set_option maxHeartbeats 16000000 in
theorem rc_need0 {t s : T} {l : List ByteArray} {a : Option Addr} {ac : Nat} {sla : Option Addr} {slc : Nat} {sma : Option Addr} {smc : Nat} {la : Option Addr} {lc : Nat} {ma : Option Addr} {mc : Nat} {w W0 wc : World} {Sl : Nat → Prop} {n5 n6 : Nat} {K9 : Act → World → Prop} {post : Ending → World → Prop} {A : Option Addr} {c : Nat} {N : List FlawT}  {u0 u1 u5 u6 u8 u9 u10 u11 u12 u13 u14 u15 u16 u17 u18 u19 u20 u21 u22 u23 u24 u25 u26 u27 u28 u29 u30 u31 u32 u33 u34 u35 u36 u37 u38 u39 u40 u41 u42 u43 u44 u45 u46 u47 u48 u49 u50 u51 u52 u53 u54 u55 u56 u57 u58 u59 u60 u61 u62 u63 u64 u65 u66 u67 u68 u69 u70 u71 u72 u73 u74 u75 u76 u77 u78 u79 u80 u81 u82 u83 u84 u85 u86 u87 u88 u89 u90 u91 u92 u93 u94 u95 u96 u97 u98 u99 u100 u101 u102 u103 u104 u105 u106 u107 u108 u109 u110 u111 u112 u113 u114 u115 u116 u117 u118 u119 u120 u121 u122 u123 u124 u125 u126 u127 u128 u129 u130 u131 u132 u133 u134 u135 u136 u137 u138 u139 u140 u141 u142 u143 u144 u145 u146 u147 u148 u149 u150 u151 u152 u153 u154 u155 u156 u157 u158 u159 u160 u161 u162 u163 u164 u165 u166 u167 u168 u169 u170 u171 u172 u173 u174 u175 u176 u177 u178 u179 u180 u181 u182 u183 u184 u185 u186 u187 u188 u189 u190 u191 u192 u193 u194 u195 u196 u197 u198 u199 u200 u201 u202 u203 u204 u205 u206 u207 u208 u209 u210 u211 u212 u213 u214 u215 u216 u217 u218 u219 u220 u221 u222 u223 u224 u225 u226 u227 u228 u229 u230 u231 u232 u233 u234 u235 u236 u237 u238 u239 u240 u241 u242 u243 u244 u245 u246 u247 u248 u249 u250 u251 u252 u253 u254 u255 u256 u257 u258 u259 u260 u261 u262 u263 u264 u265 u266 u267 u268 u269 u270 u271 u272 u273 u274 : Value} (hbase : RBase w W0 Sl a l n5 s sla slc sma smc n6 t la lc ma mc) (HC : Hid (RC w W0 wc Sl A c N))
    (hQ : ∀ (nx : Nat) (x : T) (qa : Option Addr) (qc : Nat) (qm : Option Addr) (qn : Nat) (wx : World) (v23 v176 v177 v178 v179 v180 : Value), x = (getT s reqW).getD T.zero → Hid (Below wc.heap.size wc wx) → Hid (RBox W0 wx nx x qa qc qm qn) → wc.heap.size ≤ nx → K9 ⟨#[u0, u1, .slice a l.length ac, .pointer (some ⟨n5, 0, none⟩), .pointer (some ⟨n6, 0, none⟩), u5, u6, .slice A N.length c, u8, u9, u10, u11, u12, u13, u14, u15, u16, u17, u18, u19, u20, u21, .pointer (some ⟨nx, 0, none⟩), v23, u24, u25, u26, u27, u28, u29, u30, u31, u32, u33, u34, u35, u36, u37, u38, u39, u40, u41, u42, u43, u44, u45, u46, u47, u48, u49, u50, u51, u52, u53, u54, u55, u56, u57, u58, u59, u60, u61, u62, u63, u64, u65, u66, u67, u68, u69, u70, u71, u72, u73, u74, u75, u76, u77, u78, u79, u80, u81, u82, u83, u84, u85, u86, u87, u88, u89, u90, u91, u92, u93, u94, u95, u96, u97, u98, u99, u100, u101, u102, u103, u104, u105, u106, u107, u108, u109, u110, u111, u112, u113, u114, u115, u116, u117, u118, u119, u120, u121, u122, u123, u124, u125, u126, u127, u128, u129, u130, u131, u132, u133, u134, u135, u136, u137, u138, u139, u140, u141, u142, u143, u144, u145, u146, u147, u148, u149, u150, u151, u152, u153, u154, u155, u156, u157, u158, u159, u160, u161, u162, u163, u164, u165, u166, u167, u168, u169, u170, u171, u172, u173, u174, u175, v176, v177, v178, v179, v180, u181, u182, u183, u184, u185, u186, u187, u188, u189, u190, u191, u192, u193, u194, u195, u196, u197, u198, u199, u200, u201, u202, u203, u204, u205, u206, u207, u208, u209, u210, u211, u212, u213, u214, u215, u216, u217, u218, u219, u220, u221, u222, u223, u224, u225, u226, u227, u228, u229, u230, u231, u232, u233, u234, u235, u236, u237, u238, u239, u240, u241, u242, u243, u244, u245, u246, u247, u248, u249, u250, u251, u252, u253, u254, u255, u256, u257, u258, u259, u260, u261, u262, u263, u264, u265, u266, u267, u268, u269, u270, u271, u272, u273, u274], []⟩ wx) :
    Code.wp Tryd.prog (chk25 10) (Exit.then K9 (bodyPost Tryd.prog Tryd.f10 post)) ⟨#[u0, u1, .slice a l.length ac, .pointer (some ⟨n5, 0, none⟩), .pointer (some ⟨n6, 0, none⟩), u5, u6, .slice A N.length c, u8, u9, u10, u11, u12, u13, u14, u15, u16, u17, u18, u19, u20, u21, u22, u23, u24, u25, u26, u27, u28, u29, u30, u31, u32, u33, u34, u35, u36, u37, u38, u39, u40, u41, u42, u43, u44, u45, u46, u47, u48, u49, u50, u51, u52, u53, u54, u55, u56, u57, u58, u59, u60, u61, u62, u63, u64, u65, u66, u67, u68, u69, u70, u71, u72, u73, u74, u75, u76, u77, u78, u79, u80, u81, u82, u83, u84, u85, u86, u87, u88, u89, u90, u91, u92, u93, u94, u95, u96, u97, u98, u99, u100, u101, u102, u103, u104, u105, u106, u107, u108, u109, u110, u111, u112, u113, u114, u115, u116, u117, u118, u119, u120, u121, u122, u123, u124, u125, u126, u127, u128, u129, u130, u131, u132, u133, u134, u135, u136, u137, u138, u139, u140, u141, u142, u143, u144, u145, u146, u147, u148, u149, u150, u151, u152, u153, u154, u155, u156, u157, u158, u159, u160, u161, u162, u163, u164, u165, u166, u167, u168, u169, u170, u171, u172, u173, u174, u175, u176, u177, u178, u179, u180, u181, u182, u183, u184, u185, u186, u187, u188, u189, u190, u191, u192, u193, u194, u195, u196, u197, u198, u199, u200, u201, u202, u203, u204, u205, u206, u207, u208, u209, u210, u211, u212, u213, u214, u215, u216, u217, u218, u219, u220, u221, u222, u223, u224, u225, u226, u227, u228, u229, u230, u231, u232, u233, u234, u235, u236, u237, u238, u239, u240, u241, u242, u243, u244, u245, u246, u247, u248, u249, u250, u251, u252, u253, u254, u255, u256, u257, u258, u259, u260, u261, u262, u263, u264, u265, u266, u267, u268, u269, u270, u271, u272, u273, u274], []⟩ wc := by
  have HQ := Lib.hid hQ
  obtain ⟨hB0, hL0, hS0, hT0, hps, hpt⟩ := hbase
  have HB0 := Lib.hid hB0; have HL0 := Lib.hid hL0; have HS0 := Lib.hid hS0; have HT0 := Lib.hid hT0
  clear hQ hB0 hL0 hS0 hT0
  conv => arg 2; whnf
  have HSk := Lib.hid (HS0.out.gro HC.out.gro (fun e => by cases e) (fun _ e => by cases e))
  have k1 := HSk.out.blk.cell; have l1 := HSk.out.blk.lt
  go_wp2_with fail
  refine (rget25 hps _ reqW _ _ HSk.out.rep).mono ?_
  rintro e wb ⟨v1, rfl, hr1, hb1⟩
  obtain ⟨qa, qc, qm, qn, rfl, -⟩ := hr1.inv
  obtain ⟨x, hx⟩ : ∃ z, z = (getT s reqW).getD T.zero := ⟨_, rfl⟩
  rw [← hx] at hr1
  rw [← hx]
  obtain ⟨ok, hok⟩ : ∃ z, z = (getT s reqW).isSome := ⟨_, rfl⟩
  rw [← hok]
  have HX := Lib.hid hx
  have HBA := Lib.hid (hb1.alloc hb1.size (.cells #[.int .i64 x.kind, .bool x.bool, .int .i64 x.int, .string x.str, .slice qa x.list.length qc, .slice qm x.map.length qn] 25))
  have HXB := Lib.hid (show RBox W0 (wb.alloc (.cells #[.int .i64 x.kind, .bool x.bool, .int .i64 x.int, .string x.str, .slice qa x.list.length qc, .slice qm x.map.length qn] 25)) wb.heap.size x qa qc qm qn from ⟨Blk.new _ _ _, hr1.keep (Below.new _ _)⟩)
  have HSZ := Lib.hid hb1.size
  clear hr1 hb1 k1 l1 hx hok
  go_wp2_with fail
  exact HQ.out wb.heap.size x qa qc qm qn _ _ _ _ _ _ _ HX.out HBA HXB HSZ.out

set_option maxRecDepth 100000 in
set_option maxHeartbeats 16000000 in
theorem rc_keys0 {t s : T} {l : List ByteArray} {a : Option Addr} {ac : Nat} {sla : Option Addr} {slc : Nat} {sma : Option Addr} {smc : Nat} {la : Option Addr} {lc : Nat} {ma : Option Addr} {mc : Nat} {w W0 wc : World} {Sl : Nat → Prop} {n5 n6 : Nat} {K9 : Act → World → Prop} {post : Ending → World → Prop} {A : Option Addr} {c : Nat} {N : List FlawT}  {u0 u1 u5 u6 u8 u9 u10 u11 u12 u13 u14 u15 u16 u17 u18 u19 u20 u21 u22 u23 u24 u25 u26 u27 u28 u29 u30 u31 u32 u33 u34 u35 u36 u37 u38 u39 u40 u41 u42 u43 u44 u45 u46 u47 u48 u49 u50 u51 u52 u53 u54 u55 u56 u57 u58 u59 u60 u61 u62 u63 u64 u65 u66 u67 u68 u69 u70 u71 u72 u73 u74 u75 u76 u77 u78 u79 u80 u81 u82 u83 u84 u85 u86 u87 u88 u89 u90 u91 u92 u93 u94 u95 u96 u97 u98 u99 u100 u101 u102 u103 u104 u105 u106 u107 u108 u109 u110 u111 u112 u113 u114 u115 u116 u117 u118 u119 u120 u121 u122 u123 u124 u125 u126 u127 u128 u129 u130 u131 u132 u133 u134 u135 u136 u137 u138 u139 u140 u141 u142 u143 u144 u145 u146 u147 u148 u149 u150 u151 u152 u153 u154 u155 u156 u157 u158 u159 u160 u161 u162 u163 u164 u165 u166 u167 u168 u169 u170 u171 u172 u173 u174 u175 u176 u177 u178 u179 u180 u181 u182 u183 u184 u185 u186 u187 u188 u189 u190 u191 u192 u193 u194 u195 u196 u197 u198 u199 u200 u201 u202 u203 u204 u205 u206 u207 u208 u209 u210 u211 u212 u213 u214 u215 u216 u217 u218 u219 u220 u221 u222 u223 u224 u225 u226 u227 u228 u229 u230 u231 u232 u233 u234 u235 u236 u237 u238 u239 u240 u241 u242 u243 u244 u245 u246 u247 u248 u249 u250 u251 u252 u253 u254 u255 u256 u257 u258 u259 u260 u261 u262 u263 u264 u265 u266 u267 u268 u269 u270 u271 u272 u273 u274 : Value} (hbase : RBase w W0 Sl a l n5 s sla slc sma smc n6 t la lc ma mc) (HC : Hid (RC w W0 wc Sl A c N))
    (hQ : ∀ (nx : Nat) (x : T) (qa : Option Addr) (qc : Nat) (qm : Option Addr) (qn : Nat) (wx : World) (v28 v213 v214 v215 v216 v217 : Value), x = (getT s keysW).getD T.zero → Hid (Below wc.heap.size wc wx) → Hid (RBox W0 wx nx x qa qc qm qn) → wc.heap.size ≤ nx → K9 ⟨#[u0, u1, .slice a l.length ac, .pointer (some ⟨n5, 0, none⟩), .pointer (some ⟨n6, 0, none⟩), u5, u6, .slice A N.length c, u8, u9, u10, u11, u12, u13, u14, u15, u16, u17, u18, u19, u20, u21, u22, u23, u24, u25, u26, .pointer (some ⟨nx, 0, none⟩), v28, u29, u30, u31, u32, u33, u34, u35, u36, u37, u38, u39, u40, u41, u42, u43, u44, u45, u46, u47, u48, u49, u50, u51, u52, u53, u54, u55, u56, u57, u58, u59, u60, u61, u62, u63, u64, u65, u66, u67, u68, u69, u70, u71, u72, u73, u74, u75, u76, u77, u78, u79, u80, u81, u82, u83, u84, u85, u86, u87, u88, u89, u90, u91, u92, u93, u94, u95, u96, u97, u98, u99, u100, u101, u102, u103, u104, u105, u106, u107, u108, u109, u110, u111, u112, u113, u114, u115, u116, u117, u118, u119, u120, u121, u122, u123, u124, u125, u126, u127, u128, u129, u130, u131, u132, u133, u134, u135, u136, u137, u138, u139, u140, u141, u142, u143, u144, u145, u146, u147, u148, u149, u150, u151, u152, u153, u154, u155, u156, u157, u158, u159, u160, u161, u162, u163, u164, u165, u166, u167, u168, u169, u170, u171, u172, u173, u174, u175, u176, u177, u178, u179, u180, u181, u182, u183, u184, u185, u186, u187, u188, u189, u190, u191, u192, u193, u194, u195, u196, u197, u198, u199, u200, u201, u202, u203, u204, u205, u206, u207, u208, u209, u210, u211, u212, v213, v214, v215, v216, v217, u218, u219, u220, u221, u222, u223, u224, u225, u226, u227, u228, u229, u230, u231, u232, u233, u234, u235, u236, u237, u238, u239, u240, u241, u242, u243, u244, u245, u246, u247, u248, u249, u250, u251, u252, u253, u254, u255, u256, u257, u258, u259, u260, u261, u262, u263, u264, u265, u266, u267, u268, u269, u270, u271, u272, u273, u274], []⟩ wx) :
    Code.wp Tryd.prog (chk25 12) (Exit.then K9 (bodyPost Tryd.prog Tryd.f10 post)) ⟨#[u0, u1, .slice a l.length ac, .pointer (some ⟨n5, 0, none⟩), .pointer (some ⟨n6, 0, none⟩), u5, u6, .slice A N.length c, u8, u9, u10, u11, u12, u13, u14, u15, u16, u17, u18, u19, u20, u21, u22, u23, u24, u25, u26, u27, u28, u29, u30, u31, u32, u33, u34, u35, u36, u37, u38, u39, u40, u41, u42, u43, u44, u45, u46, u47, u48, u49, u50, u51, u52, u53, u54, u55, u56, u57, u58, u59, u60, u61, u62, u63, u64, u65, u66, u67, u68, u69, u70, u71, u72, u73, u74, u75, u76, u77, u78, u79, u80, u81, u82, u83, u84, u85, u86, u87, u88, u89, u90, u91, u92, u93, u94, u95, u96, u97, u98, u99, u100, u101, u102, u103, u104, u105, u106, u107, u108, u109, u110, u111, u112, u113, u114, u115, u116, u117, u118, u119, u120, u121, u122, u123, u124, u125, u126, u127, u128, u129, u130, u131, u132, u133, u134, u135, u136, u137, u138, u139, u140, u141, u142, u143, u144, u145, u146, u147, u148, u149, u150, u151, u152, u153, u154, u155, u156, u157, u158, u159, u160, u161, u162, u163, u164, u165, u166, u167, u168, u169, u170, u171, u172, u173, u174, u175, u176, u177, u178, u179, u180, u181, u182, u183, u184, u185, u186, u187, u188, u189, u190, u191, u192, u193, u194, u195, u196, u197, u198, u199, u200, u201, u202, u203, u204, u205, u206, u207, u208, u209, u210, u211, u212, u213, u214, u215, u216, u217, u218, u219, u220, u221, u222, u223, u224, u225, u226, u227, u228, u229, u230, u231, u232, u233, u234, u235, u236, u237, u238, u239, u240, u241, u242, u243, u244, u245, u246, u247, u248, u249, u250, u251, u252, u253, u254, u255, u256, u257, u258, u259, u260, u261, u262, u263, u264, u265, u266, u267, u268, u269, u270, u271, u272, u273, u274], []⟩ wc := by
  have HQ := Lib.hid hQ
  obtain ⟨hB0, hL0, hS0, hT0, hps, hpt⟩ := hbase
  have HB0 := Lib.hid hB0; have HL0 := Lib.hid hL0; have HS0 := Lib.hid hS0; have HT0 := Lib.hid hT0
  clear hQ hB0 hL0 hS0 hT0
  conv => arg 2; whnf
  have HSk := Lib.hid (HS0.out.gro HC.out.gro (fun e => by cases e) (fun _ e => by cases e))
  have k1 := HSk.out.blk.cell; have l1 := HSk.out.blk.lt
  go_wp2_with fail
  refine (rget25 hps _ keysW _ _ HSk.out.rep).mono ?_
  rintro e wb ⟨v1, rfl, hr1, hb1⟩
  obtain ⟨qa, qc, qm, qn, rfl, -⟩ := hr1.inv
  obtain ⟨x, hx⟩ : ∃ z, z = (getT s keysW).getD T.zero := ⟨_, rfl⟩
  rw [← hx] at hr1
  rw [← hx]
  obtain ⟨ok, hok⟩ : ∃ z, z = (getT s keysW).isSome := ⟨_, rfl⟩
  rw [← hok]
  have HX := Lib.hid hx
  have HBA := Lib.hid (hb1.alloc hb1.size (.cells #[.int .i64 x.kind, .bool x.bool, .int .i64 x.int, .string x.str, .slice qa x.list.length qc, .slice qm x.map.length qn] 25))
  have HXB := Lib.hid (show RBox W0 (wb.alloc (.cells #[.int .i64 x.kind, .bool x.bool, .int .i64 x.int, .string x.str, .slice qa x.list.length qc, .slice qm x.map.length qn] 25)) wb.heap.size x qa qc qm qn from ⟨Blk.new _ _ _, hr1.keep (Below.new _ _)⟩)
  have HSZ := Lib.hid hb1.size
  clear hr1 hb1 k1 l1 hx hok
  go_wp2_with fail
  exact HQ.out wb.heap.size x qa qc qm qn _ _ _ _ _ _ _ HX.out HBA HXB HSZ.out

set_option maxRecDepth 100000 in
set_option maxHeartbeats 16000000 in
theorem rc_closed0 {t s : T} {l : List ByteArray} {a : Option Addr} {ac : Nat} {sla : Option Addr} {slc : Nat} {sma : Option Addr} {smc : Nat} {la : Option Addr} {lc : Nat} {ma : Option Addr} {mc : Nat} {w W0 wc : World} {Sl : Nat → Prop} {n5 n6 : Nat} {K9 : Act → World → Prop} {post : Ending → World → Prop} {A : Option Addr} {c : Nat} {N : List FlawT}  {u0 u1 u5 u6 u8 u9 u10 u11 u12 u13 u14 u15 u16 u17 u18 u19 u20 u21 u22 u23 u24 u25 u26 u27 u28 u29 u30 u31 u32 u33 u34 u35 u36 u37 u38 u39 u40 u41 u42 u43 u44 u45 u46 u47 u48 u49 u50 u51 u52 u53 u54 u55 u56 u57 u58 u59 u60 u61 u62 u63 u64 u65 u66 u67 u68 u69 u70 u71 u72 u73 u74 u75 u76 u77 u78 u79 u80 u81 u82 u83 u84 u85 u86 u87 u88 u89 u90 u91 u92 u93 u94 u95 u96 u97 u98 u99 u100 u101 u102 u103 u104 u105 u106 u107 u108 u109 u110 u111 u112 u113 u114 u115 u116 u117 u118 u119 u120 u121 u122 u123 u124 u125 u126 u127 u128 u129 u130 u131 u132 u133 u134 u135 u136 u137 u138 u139 u140 u141 u142 u143 u144 u145 u146 u147 u148 u149 u150 u151 u152 u153 u154 u155 u156 u157 u158 u159 u160 u161 u162 u163 u164 u165 u166 u167 u168 u169 u170 u171 u172 u173 u174 u175 u176 u177 u178 u179 u180 u181 u182 u183 u184 u185 u186 u187 u188 u189 u190 u191 u192 u193 u194 u195 u196 u197 u198 u199 u200 u201 u202 u203 u204 u205 u206 u207 u208 u209 u210 u211 u212 u213 u214 u215 u216 u217 u218 u219 u220 u221 u222 u223 u224 u225 u226 u227 u228 u229 u230 u231 u232 u233 u234 u235 u236 u237 u238 u239 u240 u241 u242 u243 u244 u245 u246 u247 u248 u249 u250 u251 u252 u253 u254 u255 u256 u257 u258 u259 u260 u261 u262 u263 u264 u265 u266 u267 u268 u269 u270 u271 u272 u273 u274 : Value} (hbase : RBase w W0 Sl a l n5 s sla slc sma smc n6 t la lc ma mc) (HC : Hid (RC w W0 wc Sl A c N))
    (hQ : ∀ (nx : Nat) (x : T) (qa : Option Addr) (qc : Nat) (qm : Option Addr) (qn : Nat) (wx : World) (v30 v218 v219 v220 v221 v222 : Value), x = (getT s closedW).getD T.zero → Hid (Below wc.heap.size wc wx) → Hid (RBox W0 wx nx x qa qc qm qn) → wc.heap.size ≤ nx → K9 ⟨#[u0, u1, .slice a l.length ac, .pointer (some ⟨n5, 0, none⟩), .pointer (some ⟨n6, 0, none⟩), u5, u6, .slice A N.length c, u8, u9, u10, u11, u12, u13, u14, u15, u16, u17, u18, u19, u20, u21, u22, u23, u24, u25, u26, u27, u28, .pointer (some ⟨nx, 0, none⟩), v30, u31, u32, u33, u34, u35, u36, u37, u38, u39, u40, u41, u42, u43, u44, u45, u46, u47, u48, u49, u50, u51, u52, u53, u54, u55, u56, u57, u58, u59, u60, u61, u62, u63, u64, u65, u66, u67, u68, u69, u70, u71, u72, u73, u74, u75, u76, u77, u78, u79, u80, u81, u82, u83, u84, u85, u86, u87, u88, u89, u90, u91, u92, u93, u94, u95, u96, u97, u98, u99, u100, u101, u102, u103, u104, u105, u106, u107, u108, u109, u110, u111, u112, u113, u114, u115, u116, u117, u118, u119, u120, u121, u122, u123, u124, u125, u126, u127, u128, u129, u130, u131, u132, u133, u134, u135, u136, u137, u138, u139, u140, u141, u142, u143, u144, u145, u146, u147, u148, u149, u150, u151, u152, u153, u154, u155, u156, u157, u158, u159, u160, u161, u162, u163, u164, u165, u166, u167, u168, u169, u170, u171, u172, u173, u174, u175, u176, u177, u178, u179, u180, u181, u182, u183, u184, u185, u186, u187, u188, u189, u190, u191, u192, u193, u194, u195, u196, u197, u198, u199, u200, u201, u202, u203, u204, u205, u206, u207, u208, u209, u210, u211, u212, u213, u214, u215, u216, u217, v218, v219, v220, v221, v222, u223, u224, u225, u226, u227, u228, u229, u230, u231, u232, u233, u234, u235, u236, u237, u238, u239, u240, u241, u242, u243, u244, u245, u246, u247, u248, u249, u250, u251, u252, u253, u254, u255, u256, u257, u258, u259, u260, u261, u262, u263, u264, u265, u266, u267, u268, u269, u270, u271, u272, u273, u274], []⟩ wx) :
    Code.wp Tryd.prog (chk25 13) (Exit.then K9 (bodyPost Tryd.prog Tryd.f10 post)) ⟨#[u0, u1, .slice a l.length ac, .pointer (some ⟨n5, 0, none⟩), .pointer (some ⟨n6, 0, none⟩), u5, u6, .slice A N.length c, u8, u9, u10, u11, u12, u13, u14, u15, u16, u17, u18, u19, u20, u21, u22, u23, u24, u25, u26, u27, u28, u29, u30, u31, u32, u33, u34, u35, u36, u37, u38, u39, u40, u41, u42, u43, u44, u45, u46, u47, u48, u49, u50, u51, u52, u53, u54, u55, u56, u57, u58, u59, u60, u61, u62, u63, u64, u65, u66, u67, u68, u69, u70, u71, u72, u73, u74, u75, u76, u77, u78, u79, u80, u81, u82, u83, u84, u85, u86, u87, u88, u89, u90, u91, u92, u93, u94, u95, u96, u97, u98, u99, u100, u101, u102, u103, u104, u105, u106, u107, u108, u109, u110, u111, u112, u113, u114, u115, u116, u117, u118, u119, u120, u121, u122, u123, u124, u125, u126, u127, u128, u129, u130, u131, u132, u133, u134, u135, u136, u137, u138, u139, u140, u141, u142, u143, u144, u145, u146, u147, u148, u149, u150, u151, u152, u153, u154, u155, u156, u157, u158, u159, u160, u161, u162, u163, u164, u165, u166, u167, u168, u169, u170, u171, u172, u173, u174, u175, u176, u177, u178, u179, u180, u181, u182, u183, u184, u185, u186, u187, u188, u189, u190, u191, u192, u193, u194, u195, u196, u197, u198, u199, u200, u201, u202, u203, u204, u205, u206, u207, u208, u209, u210, u211, u212, u213, u214, u215, u216, u217, u218, u219, u220, u221, u222, u223, u224, u225, u226, u227, u228, u229, u230, u231, u232, u233, u234, u235, u236, u237, u238, u239, u240, u241, u242, u243, u244, u245, u246, u247, u248, u249, u250, u251, u252, u253, u254, u255, u256, u257, u258, u259, u260, u261, u262, u263, u264, u265, u266, u267, u268, u269, u270, u271, u272, u273, u274], []⟩ wc := by
  have HQ := Lib.hid hQ
  obtain ⟨hB0, hL0, hS0, hT0, hps, hpt⟩ := hbase
  have HB0 := Lib.hid hB0; have HL0 := Lib.hid hL0; have HS0 := Lib.hid hS0; have HT0 := Lib.hid hT0
  clear hQ hB0 hL0 hS0 hT0
  conv => arg 2; whnf
  have HSk := Lib.hid (HS0.out.gro HC.out.gro (fun e => by cases e) (fun _ e => by cases e))
  have k1 := HSk.out.blk.cell; have l1 := HSk.out.blk.lt
  go_wp2_with fail
  refine (rget25 hps _ closedW _ _ HSk.out.rep).mono ?_
  rintro e wb ⟨v1, rfl, hr1, hb1⟩
  obtain ⟨qa, qc, qm, qn, rfl, -⟩ := hr1.inv
  obtain ⟨x, hx⟩ : ∃ z, z = (getT s closedW).getD T.zero := ⟨_, rfl⟩
  rw [← hx] at hr1
  rw [← hx]
  obtain ⟨ok, hok⟩ : ∃ z, z = (getT s closedW).isSome := ⟨_, rfl⟩
  rw [← hok]
  have HX := Lib.hid hx
  have HBA := Lib.hid (hb1.alloc hb1.size (.cells #[.int .i64 x.kind, .bool x.bool, .int .i64 x.int, .string x.str, .slice qa x.list.length qc, .slice qm x.map.length qn] 25))
  have HXB := Lib.hid (show RBox W0 (wb.alloc (.cells #[.int .i64 x.kind, .bool x.bool, .int .i64 x.int, .string x.str, .slice qa x.list.length qc, .slice qm x.map.length qn] 25)) wb.heap.size x qa qc qm qn from ⟨Blk.new _ _ _, hr1.keep (Below.new _ _)⟩)
  have HSZ := Lib.hid hb1.size
  clear hr1 hb1 k1 l1 hx hok
  go_wp2_with fail
  exact HQ.out wb.heap.size x qa qc qm qn _ _ _ _ _ _ _ HX.out HBA HXB HSZ.out

set_option maxRecDepth 100000 in
set_option maxHeartbeats 32000000 in
theorem rc_need {t s : T} {l : List ByteArray} {a : Option Addr} {ac : Nat} {sla : Option Addr} {slc : Nat} {sma : Option Addr} {smc : Nat} {la : Option Addr} {lc : Nat} {ma : Option Addr} {mc : Nat} {w W0 wc : World} {Sl : Nat → Prop} {n5 n6 : Nat} {K9 : Act → World → Prop} {post : Ending → World → Prop} {A : Option Addr} {c : Nat} {N : List FlawT} {x : T} {qa : Option Addr} {qc : Nat} {qm : Option Addr} {qn : Nat} {nx : Nat}  {u0 u1 u5 u6 u8 u9 u10 u11 u12 u13 u14 u15 u16 u17 u18 u19 u20 u21 u23 u24 u25 u26 u27 u28 u29 u30 u31 u32 u33 u34 u35 u36 u37 u38 u39 u40 u41 u42 u43 u44 u45 u46 u47 u48 u49 u50 u51 u52 u53 u54 u55 u56 u57 u58 u59 u60 u61 u62 u63 u64 u65 u66 u67 u68 u69 u70 u71 u72 u73 u74 u75 u76 u77 u78 u79 u80 u81 u82 u83 u84 u85 u86 u87 u88 u89 u90 u91 u92 u93 u94 u95 u96 u97 u98 u99 u100 u101 u102 u103 u104 u105 u106 u107 u108 u109 u110 u111 u112 u113 u114 u115 u116 u117 u118 u119 u120 u121 u122 u123 u124 u125 u126 u127 u128 u129 u130 u131 u132 u133 u134 u135 u136 u137 u138 u139 u140 u141 u142 u143 u144 u145 u146 u147 u148 u149 u150 u151 u152 u153 u154 u155 u156 u157 u158 u159 u160 u161 u162 u163 u164 u165 u166 u167 u168 u169 u170 u171 u172 u173 u174 u175 u176 u177 u178 u179 u180 u181 u182 u183 u184 u185 u186 u187 u188 u189 u190 u191 u192 u193 u194 u195 u196 u197 u198 u199 u200 u201 u202 u203 u204 u205 u206 u207 u208 u209 u210 u211 u212 u213 u214 u215 u216 u217 u218 u219 u220 u221 u222 u223 u224 u225 u226 u227 u228 u229 u230 u231 u232 u233 u234 u235 u236 u237 u238 u239 u240 u241 u242 u243 u244 u245 u246 u247 u248 u249 u250 u251 u252 u253 u254 u255 u256 u257 u258 u259 u260 u261 u262 u263 u264 u265 u266 u267 u268 u269 u270 u271 u272 u273 u274 : Value} (hbase : RBase w W0 Sl a l n5 s sla slc sma smc n6 t la lc ma mc) (HC : Hid (RC w W0 wc Sl A c N)) (HXB : Hid (RBox W0 wc nx x qa qc qm qn)) (HRX : Hid (Value.ownBlock (.slice A N.length c) ≠ some nx)) (hfx : FineT x) (hln : l.length ≤ 1000000) (hT : N.length + (x.list.flatMap (needP t l)).length ≤ 999999000)
    (hQ : ∀ (A' : Option Addr) (c' : Nat) (wx : World) (v24 v25 v26 v181 v182 v183 v184 v185 v186 v187 v188 v189 v190 v191 v192 v193 v194 v195 v196 v197 v198 v199 v200 v201 v202 v203 v204 v205 v206 v207 v208 v209 v210 v211 v212 : Value), Hid (RC w W0 wx Sl A' c' (N ++ x.list.flatMap (needP t l))) → K9 ⟨#[u0, u1, .slice a l.length ac, .pointer (some ⟨n5, 0, none⟩), .pointer (some ⟨n6, 0, none⟩), u5, u6, .slice A' (N ++ x.list.flatMap (needP t l)).length c', u8, u9, u10, u11, u12, u13, u14, u15, u16, u17, u18, u19, u20, u21, .pointer (some ⟨nx, 0, none⟩), u23, v24, v25, v26, u27, u28, u29, u30, u31, u32, u33, u34, u35, u36, u37, u38, u39, u40, u41, u42, u43, u44, u45, u46, u47, u48, u49, u50, u51, u52, u53, u54, u55, u56, u57, u58, u59, u60, u61, u62, u63, u64, u65, u66, u67, u68, u69, u70, u71, u72, u73, u74, u75, u76, u77, u78, u79, u80, u81, u82, u83, u84, u85, u86, u87, u88, u89, u90, u91, u92, u93, u94, u95, u96, u97, u98, u99, u100, u101, u102, u103, u104, u105, u106, u107, u108, u109, u110, u111, u112, u113, u114, u115, u116, u117, u118, u119, u120, u121, u122, u123, u124, u125, u126, u127, u128, u129, u130, u131, u132, u133, u134, u135, u136, u137, u138, u139, u140, u141, u142, u143, u144, u145, u146, u147, u148, u149, u150, u151, u152, u153, u154, u155, u156, u157, u158, u159, u160, u161, u162, u163, u164, u165, u166, u167, u168, u169, u170, u171, u172, u173, u174, u175, u176, u177, u178, u179, u180, v181, v182, v183, v184, v185, v186, v187, v188, v189, v190, v191, v192, v193, v194, v195, v196, v197, v198, v199, v200, v201, v202, v203, v204, v205, v206, v207, v208, v209, v210, v211, v212, u213, u214, u215, u216, u217, u218, u219, u220, u221, u222, u223, u224, u225, u226, u227, u228, u229, u230, u231, u232, u233, u234, u235, u236, u237, u238, u239, u240, u241, u242, u243, u244, u245, u246, u247, u248, u249, u250, u251, u252, u253, u254, u255, u256, u257, u258, u259, u260, u261, u262, u263, u264, u265, u266, u267, u268, u269, u270, u271, u272, u273, u274], []⟩ wx) :
    Code.wp Tryd.prog (chk25 11) (Exit.then K9 (bodyPost Tryd.prog Tryd.f10 post)) ⟨#[u0, u1, .slice a l.length ac, .pointer (some ⟨n5, 0, none⟩), .pointer (some ⟨n6, 0, none⟩), u5, u6, .slice A N.length c, u8, u9, u10, u11, u12, u13, u14, u15, u16, u17, u18, u19, u20, u21, .pointer (some ⟨nx, 0, none⟩), u23, u24, u25, u26, u27, u28, u29, u30, u31, u32, u33, u34, u35, u36, u37, u38, u39, u40, u41, u42, u43, u44, u45, u46, u47, u48, u49, u50, u51, u52, u53, u54, u55, u56, u57, u58, u59, u60, u61, u62, u63, u64, u65, u66, u67, u68, u69, u70, u71, u72, u73, u74, u75, u76, u77, u78, u79, u80, u81, u82, u83, u84, u85, u86, u87, u88, u89, u90, u91, u92, u93, u94, u95, u96, u97, u98, u99, u100, u101, u102, u103, u104, u105, u106, u107, u108, u109, u110, u111, u112, u113, u114, u115, u116, u117, u118, u119, u120, u121, u122, u123, u124, u125, u126, u127, u128, u129, u130, u131, u132, u133, u134, u135, u136, u137, u138, u139, u140, u141, u142, u143, u144, u145, u146, u147, u148, u149, u150, u151, u152, u153, u154, u155, u156, u157, u158, u159, u160, u161, u162, u163, u164, u165, u166, u167, u168, u169, u170, u171, u172, u173, u174, u175, u176, u177, u178, u179, u180, u181, u182, u183, u184, u185, u186, u187, u188, u189, u190, u191, u192, u193, u194, u195, u196, u197, u198, u199, u200, u201, u202, u203, u204, u205, u206, u207, u208, u209, u210, u211, u212, u213, u214, u215, u216, u217, u218, u219, u220, u221, u222, u223, u224, u225, u226, u227, u228, u229, u230, u231, u232, u233, u234, u235, u236, u237, u238, u239, u240, u241, u242, u243, u244, u245, u246, u247, u248, u249, u250, u251, u252, u253, u254, u255, u256, u257, u258, u259, u260, u261, u262, u263, u264, u265, u266, u267, u268, u269, u270, u271, u272, u273, u274], []⟩ wc := by
  have HQ := Lib.hid hQ
  obtain ⟨hB0, hL0, hS0, hT0, hps, hpt⟩ := hbase
  have HB0 := Lib.hid hB0; have HL0 := Lib.hid hL0; have HS0 := Lib.hid hS0; have HT0 := Lib.hid hT0
  clear hQ hB0 hL0 hS0 hT0
  conv => arg 2; whnf
  have HFX := Lib.hid hfx; have HTOT := Lib.hid hT
  clear hfx hT
  have k2 := HXB.out.blk.cell; have l2 := HXB.out.blk.lt
  have hx6 : x.list.length ≤ 1000000 := by have h1 := wt_list x; have h2 := HFX.out.2; omega
  go_wp2_with fail
  go_loopw [7, 24] (fun x7 x24 wr => ∃ (q : Nat) (A' : Option Addr) (c' : Nat), q ≤ x.list.length ∧ x24 = .int .i64 q ∧ x7 = .slice A' (N ++ (x.list.take q).flatMap (needP t l)).length c' ∧ Hid (RC w W0 wr Sl A' c' (N ++ (x.list.take q).flatMap (needP t l))) ∧ Hid (Gro wc wr (Value.ownBlock (.slice A N.length c)) (Value.ownBlock (.slice A' (N ++ (x.list.take q).flatMap (needP t l)).length c')))) (fun _ x24 _ => x.list.length - (Lib.intOf x24).toNat)
  case atStart => exact ⟨0, A, c, Nat.zero_le _, rfl, by rw [List.take_zero, List.flatMap_nil, List.append_nil], Lib.hid (by rw [List.take_zero, List.flatMap_nil, List.append_nil]; exact HC.out), Lib.hid (by rw [List.take_zero, List.flatMap_nil, List.append_nil]; exact Gro.refl _ _)⟩
  case round =>
    clear k2 l2
    obtain ⟨q, A2, c2, hq, rfl, rfl, HXr, HGr⟩ := hrel
    obtain ⟨N2, hN2⟩ : ∃ z, z = N ++ (x.list.take q).flatMap (needP t l) := ⟨_, rfl⟩
    rw [← hN2] at HXr HGr ⊢
    have HN2 := Lib.hid hN2
    clear hN2
    have HTQ := Lib.hid (HT0.out.gro HXr.out.gro (fun e => by cases e) (fun _ e => by cases e)); have HXQ := Lib.hid (HXB.out.gro HGr.out HRX.out HC.out.row)
    have HLQ := Lib.hid (show RepS wr (fun b => Sl b ∧ b < w.heap.size) a l from HL0.out.mono (fun _ h _ => h) (fun b o _ hlt => HXr.out.base.cell hlt))
    have k2 := HXQ.out.blk.cell; have l2 := HXQ.out.blk.lt; have k3 := HTQ.out.blk.cell; have l3 := HTQ.out.blk.lt
    have HSW := Lib.hid HXr.out.base.size
    by_cases hlt : q < x.list.length
    · have HXL := HXQ.out.rep.lay.2.2.2.2.2.2.2.2.2.1
      obtain ⟨bl, ol, yla, ylc, yma, ymc, rfl, haw, hbl, ⟨d0, d1, d2, d3, d4, d5⟩, hr⟩ := HXL.at_ hlt
      have hz := flat_takeF x.list (needP t l) hlt
      have hbd : N2.length ≤ 999999000 := by
        have h1 := congrArg List.length HN2.out; have h2 := flat_lenF x.list (needP t l) q; have h3 := HTOT.out; simp only [List.length_append] at *; omega
      generalize x.list[q] = y at d0 d1 d2 d3 d4 d5 hr hz
      have hsz : y.str.size ≤ 140737488351232 := hr.lay.2.2.1
      obtain ⟨l2', hl2⟩ : ∃ z, z = l ++ [y.str] := ⟨_, rfl⟩
      have CM := Lib.hid (fun w2 (h : RepS w2 (fun b => Sl b ∧ b < w.heap.size) a l) => show Calls Tryd.prog 23 #[.slice a l.length ac, .string y.str] w2 (fun e w' => ∃ A' c', e = .returned (.slice A' l2'.length c') ∧ OwnE eltS w' w2.heap.size (fun _ => True) A' c' l2' ∧ Below w2.heap.size w2 w') from by rw [hl2]; exact rmore l y.str a ac w2 _ h hln hsz)
      obtain ⟨bo, hbo⟩ : ∃ z, z = (getT t y.str).isSome := ⟨_, rfl⟩
      obtain ⟨yo, hyo⟩ : ∃ z, z = (getT t y.str).getD T.zero := ⟨_, rfl⟩
      have CG := Lib.hid (fun w2 (h : RepT w2 (fun b => b < W0.heap.size) (.agg #[.int .i64 t.kind, .bool t.bool, .int .i64 t.int, .string t.str, .slice la t.list.length lc, .slice ma t.map.length mc]) t) => show Calls Tryd.prog 21 #[.agg #[.int .i64 t.kind, .bool t.bool, .int .i64 t.int, .string t.str, .slice la t.list.length lc, .slice ma t.map.length mc], .string y.str] w2 (GotRS (fun b => b < W0.heap.size) w2 bo yo) from by rw [hbo, hyo]; exact rget25 hpt _ y.str _ w2 h)
      have HTR := Lib.hid HTQ.out.rep
      have hnp : needP t l y = if bo then [] else [(2, l2')] := by unfold needP; rw [hbo, hl2]
      rw [hnp] at hz
      have HZ0 := Lib.hid (show N ++ (x.list.take (q + 1)).flatMap (needP t l) = N2 ++ if bo then [] else [(2, l2')] from by rw [hz, HN2.out, List.append_assoc])
      have HBD := Lib.hid hbd
      clear hz hbd hl2 hr HXL HN2 hnp hbo hyo
      go_upto_region 35 with fail
      go_cut [25, 26] from 188 to 198 (fun p1 p2 wx => ∃ (g : Nat) (fa : Option Addr) (fc : Nat) (fm : Option Addr) (fn : Nat), p1 = .pointer (some ⟨g, 0, none⟩) ∧ p2 = .bool bo ∧ BoxF (fun b => b < W0.heap.size) wr wx g yo fa fc fm fn)
      case first =>
        refine wp_region_held_drew (S := (fun w' => (∀ i, w'.cell? ⟨nx, i, none⟩ = (#[.int .i64 x.kind, .bool x.bool, .int .i64 x.int, .string x.str, .slice (some ⟨bl, ol, none⟩) x.list.length qc, .slice qm x.map.length qn] : Array Value)[i]?) ∧ (∀ i, w'.cell? ⟨n6, i, none⟩ = (#[.int .i64 t.kind, .bool t.bool, .int .i64 t.int, .string t.str, .slice la t.list.length lc, .slice ma t.map.length mc] : Array Value)[i]?) ∧ w'.cell? ⟨bl, ol + q * 6 + 3, none⟩ = some (.string y.str))) (by kernel_rfl) (by exact ⟨(HXQ.out.blk.keep (Below.refl wr.heap.size wr).drew).cell, (HTQ.out.blk.keep (Below.refl wr.heap.size wr).drew).cell, (((Below.refl wr.heap.size wr).drew).cell hbl).trans d3⟩) (fun hHeld => ?_)
        refine wpAnyH_take (i := 0) (v := ?vm11_0) (by conv => lhs; simp only [List.getElem?_toArray, List.getElem?_cons_succ, List.getElem?_cons_zero]) (by kernel_rfl) (by kernel_rfl) (by kernel_rfl) (by exact fun _ _ _ h => h) (Or.inl ⟨by rfl, ?hym11_0⟩) (by assumption) ?_
        case hym11_0 => (intro w0 hSw; (try dsimp only at hSw); go_simp; (try with_reducible rfl); (try assumption))
        try simp only [Act.put, List.setIfInBounds_toArray, List.set_cons_zero, List.set_cons_succ]
        refine wpAnyH_take (i := 1) (v := ?vm11_1) (by conv => lhs; simp only [List.getElem?_toArray, List.getElem?_cons_succ, List.getElem?_cons_zero]) (by kernel_rfl) (by kernel_rfl) (by kernel_rfl) (by exact fun _ _ _ h => h) (Or.inl ⟨by rfl, ?hym11_1⟩) (by assumption) ?_
        case hym11_1 => (intro w0 hSw; (try dsimp only at hSw); go_simp; (try with_reducible rfl); (try assumption))
        try simp only [Act.put, List.setIfInBounds_toArray, List.set_cons_zero, List.set_cons_succ]
        refine wpAnyH_take (i := 2) (v := ?vm11_2) (by conv => lhs; simp only [List.getElem?_toArray, List.getElem?_cons_succ, List.getElem?_cons_zero]) (by kernel_rfl) (by kernel_rfl) (by kernel_rfl) (by exact fun _ _ _ h => h) (Or.inl ⟨by rfl, ?hym11_2⟩) (by assumption) ?_
        case hym11_2 => (intro w0 hSw; (try dsimp only at hSw); go_simp; (try with_reducible rfl); (try assumption))
        try simp only [Act.put, List.setIfInBounds_toArray, List.set_cons_zero, List.set_cons_succ]
        refine wpAnyH_take (i := 3) (v := ?vm11_3) (by conv => lhs; simp only [List.getElem?_toArray, List.getElem?_cons_succ, List.getElem?_cons_zero]) (by kernel_rfl) (by kernel_rfl) (by kernel_rfl) (by exact fun _ _ _ h => h) (Or.inl ⟨by rfl, ?hym11_3⟩) (by assumption) ?_
        case hym11_3 => (intro w0 hSw; (try dsimp only at hSw); go_simp; (try with_reducible rfl); (try assumption))
        try simp only [Act.put, List.setIfInBounds_toArray, List.set_cons_zero, List.set_cons_succ]
        refine wpAnyH_take (i := 4) (v := ?vm11_4) (by conv => lhs; simp only [List.getElem?_toArray, List.getElem?_cons_succ, List.getElem?_cons_zero]) (by kernel_rfl) (by kernel_rfl) (by kernel_rfl) (by exact fun _ _ _ h => h) (Or.inl ⟨by rfl, ?hym11_4⟩) (by assumption) ?_
        case hym11_4 => (intro w0 hSw; (try dsimp only at hSw); go_simp; (try with_reducible rfl); (try assumption))
        try simp only [Act.put, List.setIfInBounds_toArray, List.set_cons_zero, List.set_cons_succ]
        refine wpAnyH_take (i := 5) (v := ?vm11_5) (by conv => lhs; simp only [List.getElem?_toArray, List.getElem?_cons_succ, List.getElem?_cons_zero]) (by kernel_rfl) (by kernel_rfl) (by kernel_rfl) (by exact fun _ _ _ h => h) (Or.inl ⟨by rfl, ?hym11_5⟩) (by assumption) ?_
        case hym11_5 => (intro w0 hSw; (try dsimp only at hSw); go_simp; (try with_reducible rfl); (try assumption))
        try simp only [Act.put, List.setIfInBounds_toArray, List.set_cons_zero, List.set_cons_succ]
        refine wpAnyH_take (i := 6) (v := ?vm11_6) (by conv => lhs; simp only [List.getElem?_toArray, List.getElem?_cons_succ, List.getElem?_cons_zero]) (by kernel_rfl) (by kernel_rfl) (by kernel_rfl) (by exact fun _ _ _ h => h) (Or.inl ⟨by rfl, ?hym11_6⟩) (by assumption) ?_
        case hym11_6 => (intro w0 hSw; (try dsimp only at hSw); go_simp; (try with_reducible rfl); (try assumption))
        try simp only [Act.put, List.setIfInBounds_toArray, List.set_cons_zero, List.set_cons_succ]
        refine wpAnyH_ready (rs := [7, 11]) (by kernel_rfl) (by simp) ?_
        refine AllReadyH.cons (by conv => lhs; simp only [List.getElem?_toArray, List.getElem?_cons_succ, List.getElem?_cons_zero]) (fun K hK => ?_) ?_
        · go_simp
          refine (CG.out _ (HTR.out.keep (Below.refl wr.heap.size wr).drew)).mono ?_
          rintro e w1 ⟨v1, rfl, hr1, hb1⟩
          obtain ⟨la5, lc5, ma5, mc5, rfl, -⟩ := hr1.inv
          have HR1 := Lib.hid hr1; have HB1 := Lib.hid hb1; have HBW := Lib.hid (Below.next (Below.refl wr.heap.size wr).drew hb1)
          clear hr1 hb1
          go_wp2_with fail
          refine hK.out _ _ (by exact ⟨(HXQ.out.blk.keep HBW.out).cell, (HTQ.out.blk.keep HBW.out).cell, ((HBW.out).cell hbl).trans d3⟩) (fun hHeld => ?_)
          clear hK K
          try simp only [Act.put, List.setIfInBounds_toArray, List.set_cons_zero, List.set_cons_succ]
          refine wpAnyH_take (i := 8) (v := ?vm12_8) (by conv => lhs; simp only [List.getElem?_toArray, List.getElem?_cons_succ, List.getElem?_cons_zero]) (by kernel_rfl) (by kernel_rfl) (by kernel_rfl) (by exact fun _ _ _ h => h) (Or.inl ⟨by rfl, ?hym12_8⟩) (by assumption) ?_
          case hym12_8 => (intro w0 hSw; (try dsimp only at hSw); go_simp; (try with_reducible rfl); (try assumption))
          try simp only [Act.put, List.setIfInBounds_toArray, List.set_cons_zero, List.set_cons_succ]
          refine wpAnyH_take (i := 9) (v := ?vm12_9) (by conv => lhs; simp only [List.getElem?_toArray, List.getElem?_cons_succ, List.getElem?_cons_zero]) (by kernel_rfl) (by kernel_rfl) (by kernel_rfl) (by exact fun _ _ _ h => h) (Or.inl ⟨by rfl, ?hym12_9⟩) (by assumption) ?_
          case hym12_9 => (intro w0 hSw; (try dsimp only at hSw); go_simp; (try with_reducible rfl); (try assumption))
          try simp only [Act.put, List.setIfInBounds_toArray, List.set_cons_zero, List.set_cons_succ]
          refine wpAnyH_take (i := 10) (v := ?vm12_10) (by conv => lhs; simp only [List.getElem?_toArray, List.getElem?_cons_succ, List.getElem?_cons_zero]) (by kernel_rfl) (by kernel_rfl) (by kernel_rfl) (by exact fun _ _ _ h => h) (Or.inl ⟨by rfl, ?hym12_10⟩) (by assumption) ?_
          case hym12_10 => (intro w0 hSw; (try dsimp only at hSw); go_simp; (try with_reducible rfl); (try assumption))
          try simp only [Act.put, List.setIfInBounds_toArray, List.set_cons_zero, List.set_cons_succ]
          refine wpAnyH_ready (rs := [11]) (by kernel_rfl) (by simp) ?_
          refine AllReadyH.cons (by conv => lhs; simp only [List.getElem?_toArray, List.getElem?_cons_succ, List.getElem?_cons_zero]) (fun K hK => ?_) AllReadyH.nil
          go_simp
          have HBX := Lib.hid (BoxF.behind HB1.out HR1.out)
          have HZB := Lib.hid (Blk.new w1 25 #[.int .i64 0, .bool false, .int .i64 0, .string ⟨#[]⟩, .slice none 0 0, .slice none 0 0]); have HBW2 := Lib.hid (HBW.out.alloc HBW.out.size (.cells #[.int .i64 0, .bool false, .int .i64 0, .string ⟨#[]⟩, .slice none 0 0, .slice none 0 0] 25))
          refine hK.out _ _ (by exact ⟨(HXQ.out.blk.keep HBW2.out).cell, (HTQ.out.blk.keep HBW2.out).cell, ((HBW2.out).cell hbl).trans d3⟩) (fun hHeld => ?_)
          clear hK K
          try simp only [Act.put, List.setIfInBounds_toArray, List.set_cons_zero, List.set_cons_succ]
          refine wpAnyH_ready (rs := [12]) (by kernel_rfl) (by simp) ?_
          refine AllReadyH.cons (by conv => lhs; simp only [List.getElem?_toArray, List.getElem?_cons_succ, List.getElem?_cons_zero]) (fun K hK => ?_) AllReadyH.nil
          have kz := HZB.out.cell; have fz := HZB.out.frozen; have lz := HZB.out.lt
          go_simp
          refine hK.out _ _ (by exact ⟨(HXQ.out.blk.keep HBX.out.bel).cell, (HTQ.out.blk.keep HBX.out.bel).cell, ((HBX.out.bel).cell hbl).trans d3⟩) (fun hHeld => ?_)
          clear hK K
          try simp only [Act.put, List.setIfInBounds_toArray, List.set_cons_zero, List.set_cons_succ]
          refine wpAnyH_take (i := 13) (v := ?vm14_13) (by conv => lhs; simp only [List.getElem?_toArray, List.getElem?_cons_succ, List.getElem?_cons_zero]) (by kernel_rfl) (by kernel_rfl) (by kernel_rfl) (by exact fun _ _ _ h => h) (Or.inl ⟨by rfl, ?hym14_13⟩) (by assumption) ?_
          case hym14_13 => (intro w0 hSw; (try dsimp only at hSw); go_simp; (try with_reducible rfl); (try assumption))
          try simp only [Act.put, List.setIfInBounds_toArray, List.set_cons_zero, List.set_cons_succ]
          refine wpAnyH_done (by kernel_rfl) ?_ _
          go_wp2_with fail
          go_meet
          case rel => exact ⟨_, _, _, _, _, rfl, rfl, HBX.out⟩
        refine AllReadyH.cons (by conv => lhs; simp only [List.getElem?_toArray, List.getElem?_cons_succ, List.getElem?_cons_zero]) (fun K hK => ?_) AllReadyH.nil
        go_simp
        refine hK.out _ _ (by exact ⟨(HXQ.out.blk.keep (Below.new wr (.cells #[.int .i64 0, .bool false, .int .i64 0, .string ⟨#[]⟩, .slice none 0 0, .slice none 0 0] 25)).drew).cell, (HTQ.out.blk.keep (Below.new wr (.cells #[.int .i64 0, .bool false, .int .i64 0, .string ⟨#[]⟩, .slice none 0 0, .slice none 0 0] 25)).drew).cell, (((Below.new wr (.cells #[.int .i64 0, .bool false, .int .i64 0, .string ⟨#[]⟩, .slice none 0 0, .slice none 0 0] 25)).drew).cell hbl).trans d3⟩) (fun hHeld => ?_)
        clear hK K
        try simp only [Act.put, List.setIfInBounds_toArray, List.set_cons_zero, List.set_cons_succ]
        refine wpAnyH_ready (rs := [7]) (by kernel_rfl) (by simp) ?_
        refine AllReadyH.cons (by conv => lhs; simp only [List.getElem?_toArray, List.getElem?_cons_succ, List.getElem?_cons_zero]) (fun K hK => ?_) AllReadyH.nil
        go_simp
        refine (CG.out _ (HTR.out.keep (Below.new wr _).drew)).mono ?_
        rintro e w1 ⟨v1, rfl, hr1, hb1⟩
        obtain ⟨la5, lc5, ma5, mc5, rfl, -⟩ := hr1.inv
        have HBX := Lib.hid (BoxF.ahead (S := fun b => b < W0.heap.size) (fun b hb => Nat.lt_of_lt_of_le hb HSW.out) hb1 hr1)
        have HZB := Lib.hid (((Blk.new wr 25 #[.int .i64 0, .bool false, .int .i64 0, .string ⟨#[]⟩, .slice none 0 0, .slice none 0 0]).drew).keep hb1); have HBW := Lib.hid (Below.next (Below.new wr (.cells #[.int .i64 0, .bool false, .int .i64 0, .string ⟨#[]⟩, .slice none 0 0, .slice none 0 0] 25)).drew hb1)
        clear hr1 hb1
        go_wp2_with fail
        refine hK.out _ _ (by exact ⟨(HXQ.out.blk.keep HBW.out).cell, (HTQ.out.blk.keep HBW.out).cell, ((HBW.out).cell hbl).trans d3⟩) (fun hHeld => ?_)
        clear hK K
        try simp only [Act.put, List.setIfInBounds_toArray, List.set_cons_zero, List.set_cons_succ]
        refine wpAnyH_take (i := 8) (v := ?vm16_8) (by conv => lhs; simp only [List.getElem?_toArray, List.getElem?_cons_succ, List.getElem?_cons_zero]) (by kernel_rfl) (by kernel_rfl) (by kernel_rfl) (by exact fun _ _ _ h => h) (Or.inl ⟨by rfl, ?hym16_8⟩) (by assumption) ?_
        case hym16_8 => (intro w0 hSw; (try dsimp only at hSw); go_simp; (try with_reducible rfl); (try assumption))
        try simp only [Act.put, List.setIfInBounds_toArray, List.set_cons_zero, List.set_cons_succ]
        refine wpAnyH_take (i := 9) (v := ?vm16_9) (by conv => lhs; simp only [List.getElem?_toArray, List.getElem?_cons_succ, List.getElem?_cons_zero]) (by kernel_rfl) (by kernel_rfl) (by kernel_rfl) (by exact fun _ _ _ h => h) (Or.inl ⟨by rfl, ?hym16_9⟩) (by assumption) ?_
        case hym16_9 => (intro w0 hSw; (try dsimp only at hSw); go_simp; (try with_reducible rfl); (try assumption))
        try simp only [Act.put, List.setIfInBounds_toArray, List.set_cons_zero, List.set_cons_succ]
        refine wpAnyH_take (i := 10) (v := ?vm16_10) (by conv => lhs; simp only [List.getElem?_toArray, List.getElem?_cons_succ, List.getElem?_cons_zero]) (by kernel_rfl) (by kernel_rfl) (by kernel_rfl) (by exact fun _ _ _ h => h) (Or.inl ⟨by rfl, ?hym16_10⟩) (by assumption) ?_
        case hym16_10 => (intro w0 hSw; (try dsimp only at hSw); go_simp; (try with_reducible rfl); (try assumption))
        try simp only [Act.put, List.setIfInBounds_toArray, List.set_cons_zero, List.set_cons_succ]
        refine wpAnyH_ready (rs := [12]) (by kernel_rfl) (by simp) ?_
        refine AllReadyH.cons (by conv => lhs; simp only [List.getElem?_toArray, List.getElem?_cons_succ, List.getElem?_cons_zero]) (fun K hK => ?_) AllReadyH.nil
        have kz := HZB.out.cell; have fz := HZB.out.frozen; have lz := HZB.out.lt
        go_simp
        refine hK.out _ _ (by exact ⟨(HXQ.out.blk.keep HBX.out.bel).cell, (HTQ.out.blk.keep HBX.out.bel).cell, ((HBX.out.bel).cell hbl).trans d3⟩) (fun hHeld => ?_)
        clear hK K
        try simp only [Act.put, List.setIfInBounds_toArray, List.set_cons_zero, List.set_cons_succ]
        refine wpAnyH_take (i := 13) (v := ?vm17_13) (by conv => lhs; simp only [List.getElem?_toArray, List.getElem?_cons_succ, List.getElem?_cons_zero]) (by kernel_rfl) (by kernel_rfl) (by kernel_rfl) (by exact fun _ _ _ h => h) (Or.inl ⟨by rfl, ?hym17_13⟩) (by assumption) ?_
        case hym17_13 => (intro w0 hSw; (try dsimp only at hSw); go_simp; (try with_reducible rfl); (try assumption))
        try simp only [Act.put, List.setIfInBounds_toArray, List.set_cons_zero, List.set_cons_succ]
        refine wpAnyH_done (by kernel_rfl) ?_ _
        go_wp2_with fail
        go_meet
        case rel => exact ⟨_, _, _, _, _, rfl, rfl, HBX.out⟩
      case rest =>
      obtain ⟨g, fa, fc, fm, fn, rfl, rfl, hbx⟩ := hcut
      have HBC := Lib.hid hbx.bel
      have HXc := Lib.hid (HXr.out.keep hbx.bel); have HXQc := Lib.hid (HXQ.out.keep hbx.bel)
      have hbc := hbx.bel
      clear hbx k2 l2 k3 l3
      have k2 := HXQc.out.blk.cell; have l2 := HXQc.out.blk.lt
      have d3 := (hbc.cell (p := ⟨bl, ol + q * 6 + 3, none⟩) hbl).trans d3
      clear d0 d1 d2 d4 d5 hbc
      cases bo with
      | true =>
        have HZ3 := Lib.hid (show N2 = N ++ (x.list.take (q + 1)).flatMap (needP t l) from by rw [HZ0.out]; simp)
        go_wp2_with fail
        go_roundw
        case rel => exact ⟨q + 1, A2, c2, by omega, by go_num, by first | (rw [← HZ3.out]) | (rw [← List.length_append, ← HZ3.out]), by rw [← HZ3.out]; exact HXc, by rw [← HZ3.out]; exact Lib.hid (HGr.out.trans (Gro.of HBC.out))⟩
        case measure => simp [Lib.intOf]; omega
      | false =>
        have HZ3 := Lib.hid (show N2 ++ [(2, l2')] = N ++ (x.list.take (q + 1)).flatMap (needP t l) from by rw [HZ0.out]; simp)
        go_wp2_with fail
        refine (CM.out _ (RepS.mono (w := wr) HLQ.out (fun _ h _ => h) (fun b o _ hlt => HBC.out.cell hlt))).mono ?_
        rintro e w2 ⟨A5, c5, rfl, ho2, hb2⟩
        have HB2 := Lib.hid (HBC.out.trans (hb2.mono HBC.out.size)); have HO2 := Lib.hid ho2; have HS2 := Lib.hid HBC.out.size
        clear ho2 hb2
        obtain ⟨A7, c7, w4, hrun, hf4, hg4⟩ := flaw_append 2 (ac := c5) (HXr.out.keep HB2.out).fl HO2.out.repS (fun b hb hlt => HXr.out.made HB0.out.size (S2 := fun b => wr.heap.size ≤ b) (fun _ h => h) (B := w2.heap.size) b (Nat.le_trans HS2.out hb.1) hlt) (by have := HBD.out; omega) (Nat.le_trans HB0.out.size (HXr.out.keep HB2.out).base.size)
        rw [HZ3.out] at hrun hf4 hg4
        have RUN := Lib.hid hrun; have HX4 := Lib.hid ((HXr.out.keep HB2.out).step hf4 hg4); have HG4 := Lib.hid ((HGr.out.trans (Gro.of HB2.out)).trans hg4)
        clear hrun hf4 hg4
        go_wp2_with (at_builtin; refine wpList_append_run rfl (.tmp 201) (.tmp 211) 34 rfl RUN.out rfl rfl ?_)
        go_roundw
        case rel => exact ⟨q + 1, A7, c7, by omega, by go_num, by first | rfl | (rw [List.length_append]; done) | simp, HX4, HG4⟩
        case measure => simp [Lib.intOf]; omega
    · have hq' : q = x.list.length := by omega
      subst hq'
      rw [List.take_length] at HN2
      go_wp2_with fail
      rw [HN2.out]
      exact HQ.out A2 c2 _ _ _ _ _ _ _ _ _ _ _ _ _ _ _ _ _ _ _ _ _ _ _ _ _ _ _ _ _ _ _ _ _ _ _ _ (by rw [← HN2.out]; exact HXr)

set_option maxRecDepth 100000 in
set_option maxHeartbeats 32000000 in
theorem rc_keys {t s : T} {l : List ByteArray} {a : Option Addr} {ac : Nat} {sla : Option Addr} {slc : Nat} {sma : Option Addr} {smc : Nat} {la : Option Addr} {lc : Nat} {ma : Option Addr} {mc : Nat} {w W0 wc : World} {Sl : Nat → Prop} {n5 n6 : Nat} {K9 : Act → World → Prop} {post : Ending → World → Prop} {A : Option Addr} {c : Nat} {N : List FlawT} {x cl : T} {qa : Option Addr} {qc : Nat} {qm : Option Addr} {qn : Nat} {nx : Nat} {ca : Option Addr} {cc : Nat} {cm : Option Addr} {cn : Nat} {nc : Nat}  {u0 u1 u5 u6 u8 u9 u10 u11 u12 u13 u14 u15 u16 u17 u18 u19 u20 u21 u22 u23 u24 u25 u26 u28 u30 u31 u32 u33 u34 u35 u36 u37 u38 u39 u40 u41 u42 u43 u44 u45 u46 u47 u48 u49 u50 u51 u52 u53 u54 u55 u56 u57 u58 u59 u60 u61 u62 u63 u64 u65 u66 u67 u68 u69 u70 u71 u72 u73 u74 u75 u76 u77 u78 u79 u80 u81 u82 u83 u84 u85 u86 u87 u88 u89 u90 u91 u92 u93 u94 u95 u96 u97 u98 u99 u100 u101 u102 u103 u104 u105 u106 u107 u108 u109 u110 u111 u112 u113 u114 u115 u116 u117 u118 u119 u120 u121 u122 u123 u124 u125 u126 u127 u128 u129 u130 u131 u132 u133 u134 u135 u136 u137 u138 u139 u140 u141 u142 u143 u144 u145 u146 u147 u148 u149 u150 u151 u152 u153 u154 u155 u156 u157 u158 u159 u160 u161 u162 u163 u164 u165 u166 u167 u168 u169 u170 u171 u172 u173 u174 u175 u176 u177 u178 u179 u180 u181 u182 u183 u184 u185 u186 u187 u188 u189 u190 u191 u192 u193 u194 u195 u196 u197 u198 u199 u200 u201 u202 u203 u204 u205 u206 u207 u208 u209 u210 u211 u212 u213 u214 u215 u216 u217 u218 u219 u220 u221 u222 u223 u224 u225 u226 u227 u228 u229 u230 u231 u232 u233 u234 u235 u236 u237 u238 u239 u240 u241 u242 u243 u244 u245 u246 u247 u248 u249 u250 u251 u252 u253 u254 u255 u256 u257 u258 u259 u260 u261 u262 u263 u264 u265 u266 u267 u268 u269 u270 u271 u272 u273 u274 : Value} (hbase : RBase w W0 Sl a l n5 s sla slc sma smc n6 t la lc ma mc) (HC : Hid (RC w W0 wc Sl A c N)) (HXB : Hid (RBox W0 wc nx x qa qc qm qn)) (HCB : Hid (RBox W0 wc nc cl ca cc cm cn)) (HRX : Hid (Value.ownBlock (.slice A N.length c) ≠ some nx)) (HRC : Hid (Value.ownBlock (.slice A N.length c) ≠ some nc)) (hfx : FineT x) (hft : FineT t) (hMI : ∀ p ∈ t.map, RCheckOk p.2) (hln : l.length + t.wt ≤ 1000000) (hT : N.length + (T.chkM t.map x cl.bool l).length ≤ 999999000)
    (hQ : ∀ (A' : Option Addr) (c' : Nat) (wx : World) (v31 v32 v33 v223 v224 v225 v226 v227 v228 v229 v230 v231 v232 v233 v234 v235 v236 v237 v238 v239 v240 v241 v242 v243 v244 v245 v246 v247 v248 v249 v250 v251 v252 v253 v254 v255 v256 v257 v258 v259 v260 v261 v262 v263 v264 v265 v266 v267 v268 v269 v270 v271 v272 v273 : Value), Hid (RC w W0 wx Sl A' c' (N ++ T.chkM t.map x cl.bool l)) → K9 ⟨#[u0, u1, .slice a l.length ac, .pointer (some ⟨n5, 0, none⟩), .pointer (some ⟨n6, 0, none⟩), u5, u6, .slice A' (N ++ T.chkM t.map x cl.bool l).length c', u8, u9, u10, u11, u12, u13, u14, u15, u16, u17, u18, u19, u20, u21, u22, u23, u24, u25, u26, .pointer (some ⟨nx, 0, none⟩), u28, .pointer (some ⟨nc, 0, none⟩), u30, v31, v32, v33, u34, u35, u36, u37, u38, u39, u40, u41, u42, u43, u44, u45, u46, u47, u48, u49, u50, u51, u52, u53, u54, u55, u56, u57, u58, u59, u60, u61, u62, u63, u64, u65, u66, u67, u68, u69, u70, u71, u72, u73, u74, u75, u76, u77, u78, u79, u80, u81, u82, u83, u84, u85, u86, u87, u88, u89, u90, u91, u92, u93, u94, u95, u96, u97, u98, u99, u100, u101, u102, u103, u104, u105, u106, u107, u108, u109, u110, u111, u112, u113, u114, u115, u116, u117, u118, u119, u120, u121, u122, u123, u124, u125, u126, u127, u128, u129, u130, u131, u132, u133, u134, u135, u136, u137, u138, u139, u140, u141, u142, u143, u144, u145, u146, u147, u148, u149, u150, u151, u152, u153, u154, u155, u156, u157, u158, u159, u160, u161, u162, u163, u164, u165, u166, u167, u168, u169, u170, u171, u172, u173, u174, u175, u176, u177, u178, u179, u180, u181, u182, u183, u184, u185, u186, u187, u188, u189, u190, u191, u192, u193, u194, u195, u196, u197, u198, u199, u200, u201, u202, u203, u204, u205, u206, u207, u208, u209, u210, u211, u212, u213, u214, u215, u216, u217, u218, u219, u220, u221, u222, v223, v224, v225, v226, v227, v228, v229, v230, v231, v232, v233, v234, v235, v236, v237, v238, v239, v240, v241, v242, v243, v244, v245, v246, v247, v248, v249, v250, v251, v252, v253, v254, v255, v256, v257, v258, v259, v260, v261, v262, v263, v264, v265, v266, v267, v268, v269, v270, v271, v272, v273, u274], []⟩ wx) :
    Code.wp Tryd.prog (chk25 14) (Exit.then K9 (bodyPost Tryd.prog Tryd.f10 post)) ⟨#[u0, u1, .slice a l.length ac, .pointer (some ⟨n5, 0, none⟩), .pointer (some ⟨n6, 0, none⟩), u5, u6, .slice A N.length c, u8, u9, u10, u11, u12, u13, u14, u15, u16, u17, u18, u19, u20, u21, u22, u23, u24, u25, u26, .pointer (some ⟨nx, 0, none⟩), u28, .pointer (some ⟨nc, 0, none⟩), u30, u31, u32, u33, u34, u35, u36, u37, u38, u39, u40, u41, u42, u43, u44, u45, u46, u47, u48, u49, u50, u51, u52, u53, u54, u55, u56, u57, u58, u59, u60, u61, u62, u63, u64, u65, u66, u67, u68, u69, u70, u71, u72, u73, u74, u75, u76, u77, u78, u79, u80, u81, u82, u83, u84, u85, u86, u87, u88, u89, u90, u91, u92, u93, u94, u95, u96, u97, u98, u99, u100, u101, u102, u103, u104, u105, u106, u107, u108, u109, u110, u111, u112, u113, u114, u115, u116, u117, u118, u119, u120, u121, u122, u123, u124, u125, u126, u127, u128, u129, u130, u131, u132, u133, u134, u135, u136, u137, u138, u139, u140, u141, u142, u143, u144, u145, u146, u147, u148, u149, u150, u151, u152, u153, u154, u155, u156, u157, u158, u159, u160, u161, u162, u163, u164, u165, u166, u167, u168, u169, u170, u171, u172, u173, u174, u175, u176, u177, u178, u179, u180, u181, u182, u183, u184, u185, u186, u187, u188, u189, u190, u191, u192, u193, u194, u195, u196, u197, u198, u199, u200, u201, u202, u203, u204, u205, u206, u207, u208, u209, u210, u211, u212, u213, u214, u215, u216, u217, u218, u219, u220, u221, u222, u223, u224, u225, u226, u227, u228, u229, u230, u231, u232, u233, u234, u235, u236, u237, u238, u239, u240, u241, u242, u243, u244, u245, u246, u247, u248, u249, u250, u251, u252, u253, u254, u255, u256, u257, u258, u259, u260, u261, u262, u263, u264, u265, u266, u267, u268, u269, u270, u271, u272, u273, u274], []⟩ wc := by
  have HQ := Lib.hid hQ
  obtain ⟨hB0, hL0, hS0, hT0, hps, hpt⟩ := hbase
  have HB0 := Lib.hid hB0; have HL0 := Lib.hid hL0; have HS0 := Lib.hid hS0; have HT0 := Lib.hid hT0
  clear hQ hB0 hL0 hS0 hT0
  conv => arg 2; whnf
  have HFX := Lib.hid hfx; have HTOT := Lib.hid hT; have HFT := Lib.hid hft; have HMI := Lib.hid hMI; have HLN := Lib.hid hln
  have hln9 : l.length ≤ 1000000 := by omega
  clear hfx hT hft hMI hln
  have HT2 := Lib.hid (HT0.out.gro HC.out.gro (fun e => by cases e) (fun _ e => by cases e))
  have k2 := HT2.out.blk.cell; have l2 := HT2.out.blk.lt
  have hx6 : t.map.length ≤ 1000000 := by have h1 := wt_map t; have h2 := HFT.out.2; omega
  go_wp2_with fail
  go_loopw [7, 31] (fun x7 x31 wr => ∃ (q : Nat) (A' : Option Addr) (c' : Nat), q ≤ t.map.length ∧ x31 = .int .i64 q ∧ x7 = .slice A' (N ++ T.chkM (t.map.take q) x cl.bool l).length c' ∧ Hid (RC w W0 wr Sl A' c' (N ++ T.chkM (t.map.take q) x cl.bool l)) ∧ Hid (Gro wc wr (Value.ownBlock (.slice A N.length c)) (Value.ownBlock (.slice A' (N ++ T.chkM (t.map.take q) x cl.bool l).length c')))) (fun _ x31 _ => t.map.length - (Lib.intOf x31).toNat)
  case atStart => exact ⟨0, A, c, Nat.zero_le _, rfl, by rw [List.take_zero, T.chkM, List.append_nil], Lib.hid (by rw [List.take_zero, T.chkM, List.append_nil]; exact HC.out), Lib.hid (by rw [List.take_zero, T.chkM, List.append_nil]; exact Gro.refl _ _)⟩
  case round =>
    clear k2 l2
    obtain ⟨q, A2, c2, hq, rfl, rfl, HXr, HGr⟩ := hrel
    obtain ⟨N2, hN2⟩ : ∃ z, z = N ++ T.chkM (t.map.take q) x cl.bool l := ⟨_, rfl⟩
    rw [← hN2] at HXr HGr ⊢
    have HN2 := Lib.hid hN2
    clear hN2
    have HTQ := Lib.hid (HT0.out.gro HXr.out.gro (fun e => by cases e) (fun _ e => by cases e)); have HXQ := Lib.hid (HXB.out.gro HGr.out HRX.out HC.out.row); have HCQ := Lib.hid (HCB.out.gro HGr.out HRC.out HC.out.row)
    have HLQ := Lib.hid (show RepS wr (fun b => Sl b ∧ b < w.heap.size) a l from HL0.out.mono (fun _ h _ => h) (fun b o _ hlt => HXr.out.base.cell hlt))
    have k2 := HXQ.out.blk.cell; have l2 := HXQ.out.blk.lt; have k3 := HTQ.out.blk.cell; have l3 := HTQ.out.blk.lt
    have HSW := Lib.hid HXr.out.base.size
    by_cases hlt : q < t.map.length
    · have HTM := HTQ.out.rep.lay.2.2.2.2.2.2.2.2.2.2
      obtain ⟨bl, ol, yla, ylc, yma, ymc, rfl, haw, hbl, hsz, ⟨d0, d1, d2, d3, d4, d5, d6⟩, hr⟩ := HTM.at_ hlt
      have hz := chkM_take t.map x cl.bool l q hlt
      have hbd : (N2 ++ T.chkP t.map[q] x cl.bool l).length ≤ 999999000 := by
        have h1 := congrArg List.length HN2.out; have h2 := chkM_len t.map x cl.bool l (q + 1); have h3 := HTOT.out; rw [hz] at h2; simp only [List.length_append] at *; omega
      have hcx := HMI.out _ (List.getElem_mem hlt)
      have hwx : t.map[q].2.wt < t.wt := by have h1 := wtM_mem t.map t.map[q] (List.getElem_mem hlt); rw [T.wt_eq t]; omega
      have hfy := HFT.out.map (List.getElem_mem hlt)
      generalize t.map[q] = pr at d0 d1 d2 d3 d4 d5 d6 hr hz hsz hbd hcx hwx hfy
      obtain ⟨key, y⟩ := pr
      simp only at d0 d1 d2 d3 d4 d5 d6 hr hsz hcx hwx hfy
      obtain ⟨l2', hl2⟩ : ∃ z, z = l ++ [key] := ⟨_, rfl⟩
      have CM := Lib.hid (fun w2 (h : RepS w2 (fun b => Sl b ∧ b < w.heap.size) a l) => show Calls Tryd.prog 23 #[.slice a l.length ac, .string key] w2 (fun e w' => ∃ A' c', e = .returned (.slice A' l2'.length c') ∧ OwnE eltS w' w2.heap.size (fun _ => True) A' c' l2' ∧ Below w2.heap.size w2 w') from by rw [hl2]; exact rmore l key a ac w2 _ h hln9 hsz)
      obtain ⟨bo, hbo⟩ : ∃ z, z = (getT x key).isSome := ⟨_, rfl⟩
      obtain ⟨yo, hyo⟩ : ∃ z, z = (getT x key).getD T.zero := ⟨_, rfl⟩
      obtain ⟨cb, hcb⟩ : ∃ z, z = cl.bool := ⟨_, rfl⟩
      have CG := Lib.hid (fun w2 (h : RepT w2 (fun b => b < W0.heap.size) (.agg #[.int .i64 x.kind, .bool x.bool, .int .i64 x.int, .string x.str, .slice qa x.list.length qc, .slice qm x.map.length qn]) x) => show Calls Tryd.prog 21 #[.agg #[.int .i64 x.kind, .bool x.bool, .int .i64 x.int, .string x.str, .slice qa x.list.length qc, .slice qm x.map.length qn], .string key] w2 (GotRS (fun b => b < W0.heap.size) w2 bo yo) from by rw [hbo, hyo]; exact rget25 HFX.out.1 _ key _ w2 h)
      have HXR := Lib.hid HXQ.out.rep
      have hnp : T.chkP (key, y) x cl.bool l = if bo then y.chk yo l2' else if cb then [(3, l2')] else [] := by
        rw [chkP_eq, hbo, hyo, hl2, hcb]
        cases getT x key <;> rfl
      rw [hnp] at hz hbd
      have HZ0 := Lib.hid (show N ++ T.chkM (t.map.take (q + 1)) x cl.bool l = N2 ++ if bo then y.chk yo l2' else if cb then [(3, l2')] else [] from by rw [hz, HN2.out, List.append_assoc])
      have HFYO := Lib.hid (show FineT yo from by rw [hyo]; exact HFX.out.getD key)
      have HBD0 := Lib.hid hbd; have HL2 := Lib.hid hl2; have HFY := Lib.hid hfy; have HWY := Lib.hid hwx; have HCX := Lib.hid hcx
      have HRY0 := Lib.hid (hr.weak (S' := fun _ => True) (fun _ _ _ => trivial))
      have HKC := Lib.hid (show wr.cell? ⟨nc, 1, none⟩ = some (.bool cb) from by rw [hcb]; exact HCQ.out.blk.cell 1)
      have HLC := Lib.hid HCQ.out.blk.lt
      clear hz hbd hfy hwx hcx hl2 hr HTM HN2 hnp hbo hyo hcb
      go_upto_region 43 with fail
      go_cut [32, 33] from 230 to 240 (fun p1 p2 wx => ∃ (g : Nat) (fa : Option Addr) (fc : Nat) (fm : Option Addr) (fn : Nat), p1 = .pointer (some ⟨g, 0, none⟩) ∧ p2 = .bool bo ∧ BoxF (fun b => b < W0.heap.size) wr wx g yo fa fc fm fn)
      case first =>
        refine wp_region_held_drew (S := (fun w' => (∀ i, w'.cell? ⟨nx, i, none⟩ = (#[.int .i64 x.kind, .bool x.bool, .int .i64 x.int, .string x.str, .slice qa x.list.length qc, .slice qm x.map.length qn] : Array Value)[i]?) ∧ (∀ i, w'.cell? ⟨n6, i, none⟩ = (#[.int .i64 t.kind, .bool t.bool, .int .i64 t.int, .string t.str, .slice la t.list.length lc, .slice (some ⟨bl, ol, none⟩) t.map.length mc] : Array Value)[i]?) ∧ w'.cell? ⟨bl, ol + q * 7, none⟩ = some (.string key))) (by kernel_rfl) (by exact ⟨(HXQ.out.blk.keep (Below.refl wr.heap.size wr).drew).cell, (HTQ.out.blk.keep (Below.refl wr.heap.size wr).drew).cell, (((Below.refl wr.heap.size wr).drew).cell hbl).trans d0⟩) (fun hHeld => ?_)
        refine wpAnyH_take (i := 0) (v := ?vm18_0) (by conv => lhs; simp only [List.getElem?_toArray, List.getElem?_cons_succ, List.getElem?_cons_zero]) (by kernel_rfl) (by kernel_rfl) (by kernel_rfl) (by exact fun _ _ _ h => h) (Or.inl ⟨by rfl, ?hym18_0⟩) (by assumption) ?_
        case hym18_0 => (intro w0 hSw; (try dsimp only at hSw); go_simp; (try with_reducible rfl); (try assumption))
        try simp only [Act.put, List.setIfInBounds_toArray, List.set_cons_zero, List.set_cons_succ]
        refine wpAnyH_take (i := 1) (v := ?vm18_1) (by conv => lhs; simp only [List.getElem?_toArray, List.getElem?_cons_succ, List.getElem?_cons_zero]) (by kernel_rfl) (by kernel_rfl) (by kernel_rfl) (by exact fun _ _ _ h => h) (Or.inl ⟨by rfl, ?hym18_1⟩) (by assumption) ?_
        case hym18_1 => (intro w0 hSw; (try dsimp only at hSw); go_simp; (try with_reducible rfl); (try assumption))
        try simp only [Act.put, List.setIfInBounds_toArray, List.set_cons_zero, List.set_cons_succ]
        refine wpAnyH_take (i := 2) (v := ?vm18_2) (by conv => lhs; simp only [List.getElem?_toArray, List.getElem?_cons_succ, List.getElem?_cons_zero]) (by kernel_rfl) (by kernel_rfl) (by kernel_rfl) (by exact fun _ _ _ h => h) (Or.inl ⟨by rfl, ?hym18_2⟩) (by assumption) ?_
        case hym18_2 => (intro w0 hSw; (try dsimp only at hSw); go_simp; (try with_reducible rfl); (try assumption))
        try simp only [Act.put, List.setIfInBounds_toArray, List.set_cons_zero, List.set_cons_succ]
        refine wpAnyH_take (i := 3) (v := ?vm18_3) (by conv => lhs; simp only [List.getElem?_toArray, List.getElem?_cons_succ, List.getElem?_cons_zero]) (by kernel_rfl) (by kernel_rfl) (by kernel_rfl) (by exact fun _ _ _ h => h) (Or.inl ⟨by rfl, ?hym18_3⟩) (by assumption) ?_
        case hym18_3 => (intro w0 hSw; (try dsimp only at hSw); go_simp; (try with_reducible rfl); (try assumption))
        try simp only [Act.put, List.setIfInBounds_toArray, List.set_cons_zero, List.set_cons_succ]
        refine wpAnyH_take (i := 4) (v := ?vm18_4) (by conv => lhs; simp only [List.getElem?_toArray, List.getElem?_cons_succ, List.getElem?_cons_zero]) (by kernel_rfl) (by kernel_rfl) (by kernel_rfl) (by exact fun _ _ _ h => h) (Or.inl ⟨by rfl, ?hym18_4⟩) (by assumption) ?_
        case hym18_4 => (intro w0 hSw; (try dsimp only at hSw); go_simp; (try with_reducible rfl); (try assumption))
        try simp only [Act.put, List.setIfInBounds_toArray, List.set_cons_zero, List.set_cons_succ]
        refine wpAnyH_take (i := 5) (v := ?vm18_5) (by conv => lhs; simp only [List.getElem?_toArray, List.getElem?_cons_succ, List.getElem?_cons_zero]) (by kernel_rfl) (by kernel_rfl) (by kernel_rfl) (by exact fun _ _ _ h => h) (Or.inl ⟨by rfl, ?hym18_5⟩) (by assumption) ?_
        case hym18_5 => (intro w0 hSw; (try dsimp only at hSw); go_simp; (try with_reducible rfl); (try assumption))
        try simp only [Act.put, List.setIfInBounds_toArray, List.set_cons_zero, List.set_cons_succ]
        refine wpAnyH_take (i := 6) (v := ?vm18_6) (by conv => lhs; simp only [List.getElem?_toArray, List.getElem?_cons_succ, List.getElem?_cons_zero]) (by kernel_rfl) (by kernel_rfl) (by kernel_rfl) (by exact fun _ _ _ h => h) (Or.inl ⟨by rfl, ?hym18_6⟩) (by assumption) ?_
        case hym18_6 => (intro w0 hSw; (try dsimp only at hSw); go_simp; (try with_reducible rfl); (try assumption))
        try simp only [Act.put, List.setIfInBounds_toArray, List.set_cons_zero, List.set_cons_succ]
        refine wpAnyH_ready (rs := [7, 11]) (by kernel_rfl) (by simp) ?_
        refine AllReadyH.cons (by conv => lhs; simp only [List.getElem?_toArray, List.getElem?_cons_succ, List.getElem?_cons_zero]) (fun K hK => ?_) ?_
        · go_simp
          refine (CG.out _ (HXR.out.keep (Below.refl wr.heap.size wr).drew)).mono ?_
          rintro e w1 ⟨v1, rfl, hr1, hb1⟩
          obtain ⟨la5, lc5, ma5, mc5, rfl, -⟩ := hr1.inv
          have HR1 := Lib.hid hr1; have HB1 := Lib.hid hb1; have HBW := Lib.hid (Below.next (Below.refl wr.heap.size wr).drew hb1)
          clear hr1 hb1
          go_wp2_with fail
          refine hK.out _ _ (by exact ⟨(HXQ.out.blk.keep HBW.out).cell, (HTQ.out.blk.keep HBW.out).cell, ((HBW.out).cell hbl).trans d0⟩) (fun hHeld => ?_)
          clear hK K
          try simp only [Act.put, List.setIfInBounds_toArray, List.set_cons_zero, List.set_cons_succ]
          refine wpAnyH_take (i := 8) (v := ?vm19_8) (by conv => lhs; simp only [List.getElem?_toArray, List.getElem?_cons_succ, List.getElem?_cons_zero]) (by kernel_rfl) (by kernel_rfl) (by kernel_rfl) (by exact fun _ _ _ h => h) (Or.inl ⟨by rfl, ?hym19_8⟩) (by assumption) ?_
          case hym19_8 => (intro w0 hSw; (try dsimp only at hSw); go_simp; (try with_reducible rfl); (try assumption))
          try simp only [Act.put, List.setIfInBounds_toArray, List.set_cons_zero, List.set_cons_succ]
          refine wpAnyH_take (i := 9) (v := ?vm19_9) (by conv => lhs; simp only [List.getElem?_toArray, List.getElem?_cons_succ, List.getElem?_cons_zero]) (by kernel_rfl) (by kernel_rfl) (by kernel_rfl) (by exact fun _ _ _ h => h) (Or.inl ⟨by rfl, ?hym19_9⟩) (by assumption) ?_
          case hym19_9 => (intro w0 hSw; (try dsimp only at hSw); go_simp; (try with_reducible rfl); (try assumption))
          try simp only [Act.put, List.setIfInBounds_toArray, List.set_cons_zero, List.set_cons_succ]
          refine wpAnyH_take (i := 10) (v := ?vm19_10) (by conv => lhs; simp only [List.getElem?_toArray, List.getElem?_cons_succ, List.getElem?_cons_zero]) (by kernel_rfl) (by kernel_rfl) (by kernel_rfl) (by exact fun _ _ _ h => h) (Or.inl ⟨by rfl, ?hym19_10⟩) (by assumption) ?_
          case hym19_10 => (intro w0 hSw; (try dsimp only at hSw); go_simp; (try with_reducible rfl); (try assumption))
          try simp only [Act.put, List.setIfInBounds_toArray, List.set_cons_zero, List.set_cons_succ]
          refine wpAnyH_ready (rs := [11]) (by kernel_rfl) (by simp) ?_
          refine AllReadyH.cons (by conv => lhs; simp only [List.getElem?_toArray, List.getElem?_cons_succ, List.getElem?_cons_zero]) (fun K hK => ?_) AllReadyH.nil
          go_simp
          have HBX := Lib.hid (BoxF.behind HB1.out HR1.out)
          have HZB := Lib.hid (Blk.new w1 25 #[.int .i64 0, .bool false, .int .i64 0, .string ⟨#[]⟩, .slice none 0 0, .slice none 0 0]); have HBW2 := Lib.hid (HBW.out.alloc HBW.out.size (.cells #[.int .i64 0, .bool false, .int .i64 0, .string ⟨#[]⟩, .slice none 0 0, .slice none 0 0] 25))
          refine hK.out _ _ (by exact ⟨(HXQ.out.blk.keep HBW2.out).cell, (HTQ.out.blk.keep HBW2.out).cell, ((HBW2.out).cell hbl).trans d0⟩) (fun hHeld => ?_)
          clear hK K
          try simp only [Act.put, List.setIfInBounds_toArray, List.set_cons_zero, List.set_cons_succ]
          refine wpAnyH_ready (rs := [12]) (by kernel_rfl) (by simp) ?_
          refine AllReadyH.cons (by conv => lhs; simp only [List.getElem?_toArray, List.getElem?_cons_succ, List.getElem?_cons_zero]) (fun K hK => ?_) AllReadyH.nil
          have kz := HZB.out.cell; have fz := HZB.out.frozen; have lz := HZB.out.lt
          go_simp
          refine hK.out _ _ (by exact ⟨(HXQ.out.blk.keep HBX.out.bel).cell, (HTQ.out.blk.keep HBX.out.bel).cell, ((HBX.out.bel).cell hbl).trans d0⟩) (fun hHeld => ?_)
          clear hK K
          try simp only [Act.put, List.setIfInBounds_toArray, List.set_cons_zero, List.set_cons_succ]
          refine wpAnyH_take (i := 13) (v := ?vm21_13) (by conv => lhs; simp only [List.getElem?_toArray, List.getElem?_cons_succ, List.getElem?_cons_zero]) (by kernel_rfl) (by kernel_rfl) (by kernel_rfl) (by exact fun _ _ _ h => h) (Or.inl ⟨by rfl, ?hym21_13⟩) (by assumption) ?_
          case hym21_13 => (intro w0 hSw; (try dsimp only at hSw); go_simp; (try with_reducible rfl); (try assumption))
          try simp only [Act.put, List.setIfInBounds_toArray, List.set_cons_zero, List.set_cons_succ]
          refine wpAnyH_done (by kernel_rfl) ?_ _
          go_wp2_with fail
          go_meet
          case rel => exact ⟨_, _, _, _, _, rfl, rfl, HBX.out⟩
        refine AllReadyH.cons (by conv => lhs; simp only [List.getElem?_toArray, List.getElem?_cons_succ, List.getElem?_cons_zero]) (fun K hK => ?_) AllReadyH.nil
        go_simp
        refine hK.out _ _ (by exact ⟨(HXQ.out.blk.keep (Below.new wr (.cells #[.int .i64 0, .bool false, .int .i64 0, .string ⟨#[]⟩, .slice none 0 0, .slice none 0 0] 25)).drew).cell, (HTQ.out.blk.keep (Below.new wr (.cells #[.int .i64 0, .bool false, .int .i64 0, .string ⟨#[]⟩, .slice none 0 0, .slice none 0 0] 25)).drew).cell, (((Below.new wr (.cells #[.int .i64 0, .bool false, .int .i64 0, .string ⟨#[]⟩, .slice none 0 0, .slice none 0 0] 25)).drew).cell hbl).trans d0⟩) (fun hHeld => ?_)
        clear hK K
        try simp only [Act.put, List.setIfInBounds_toArray, List.set_cons_zero, List.set_cons_succ]
        refine wpAnyH_ready (rs := [7]) (by kernel_rfl) (by simp) ?_
        refine AllReadyH.cons (by conv => lhs; simp only [List.getElem?_toArray, List.getElem?_cons_succ, List.getElem?_cons_zero]) (fun K hK => ?_) AllReadyH.nil
        go_simp
        refine (CG.out _ (HXR.out.keep (Below.new wr _).drew)).mono ?_
        rintro e w1 ⟨v1, rfl, hr1, hb1⟩
        obtain ⟨la5, lc5, ma5, mc5, rfl, -⟩ := hr1.inv
        have HBX := Lib.hid (BoxF.ahead (S := fun b => b < W0.heap.size) (fun b hb => Nat.lt_of_lt_of_le hb HSW.out) hb1 hr1)
        have HZB := Lib.hid (((Blk.new wr 25 #[.int .i64 0, .bool false, .int .i64 0, .string ⟨#[]⟩, .slice none 0 0, .slice none 0 0]).drew).keep hb1); have HBW := Lib.hid (Below.next (Below.new wr (.cells #[.int .i64 0, .bool false, .int .i64 0, .string ⟨#[]⟩, .slice none 0 0, .slice none 0 0] 25)).drew hb1)
        clear hr1 hb1
        go_wp2_with fail
        refine hK.out _ _ (by exact ⟨(HXQ.out.blk.keep HBW.out).cell, (HTQ.out.blk.keep HBW.out).cell, ((HBW.out).cell hbl).trans d0⟩) (fun hHeld => ?_)
        clear hK K
        try simp only [Act.put, List.setIfInBounds_toArray, List.set_cons_zero, List.set_cons_succ]
        refine wpAnyH_take (i := 8) (v := ?vm23_8) (by conv => lhs; simp only [List.getElem?_toArray, List.getElem?_cons_succ, List.getElem?_cons_zero]) (by kernel_rfl) (by kernel_rfl) (by kernel_rfl) (by exact fun _ _ _ h => h) (Or.inl ⟨by rfl, ?hym23_8⟩) (by assumption) ?_
        case hym23_8 => (intro w0 hSw; (try dsimp only at hSw); go_simp; (try with_reducible rfl); (try assumption))
        try simp only [Act.put, List.setIfInBounds_toArray, List.set_cons_zero, List.set_cons_succ]
        refine wpAnyH_take (i := 9) (v := ?vm23_9) (by conv => lhs; simp only [List.getElem?_toArray, List.getElem?_cons_succ, List.getElem?_cons_zero]) (by kernel_rfl) (by kernel_rfl) (by kernel_rfl) (by exact fun _ _ _ h => h) (Or.inl ⟨by rfl, ?hym23_9⟩) (by assumption) ?_
        case hym23_9 => (intro w0 hSw; (try dsimp only at hSw); go_simp; (try with_reducible rfl); (try assumption))
        try simp only [Act.put, List.setIfInBounds_toArray, List.set_cons_zero, List.set_cons_succ]
        refine wpAnyH_take (i := 10) (v := ?vm23_10) (by conv => lhs; simp only [List.getElem?_toArray, List.getElem?_cons_succ, List.getElem?_cons_zero]) (by kernel_rfl) (by kernel_rfl) (by kernel_rfl) (by exact fun _ _ _ h => h) (Or.inl ⟨by rfl, ?hym23_10⟩) (by assumption) ?_
        case hym23_10 => (intro w0 hSw; (try dsimp only at hSw); go_simp; (try with_reducible rfl); (try assumption))
        try simp only [Act.put, List.setIfInBounds_toArray, List.set_cons_zero, List.set_cons_succ]
        refine wpAnyH_ready (rs := [12]) (by kernel_rfl) (by simp) ?_
        refine AllReadyH.cons (by conv => lhs; simp only [List.getElem?_toArray, List.getElem?_cons_succ, List.getElem?_cons_zero]) (fun K hK => ?_) AllReadyH.nil
        have kz := HZB.out.cell; have fz := HZB.out.frozen; have lz := HZB.out.lt
        go_simp
        refine hK.out _ _ (by exact ⟨(HXQ.out.blk.keep HBX.out.bel).cell, (HTQ.out.blk.keep HBX.out.bel).cell, ((HBX.out.bel).cell hbl).trans d0⟩) (fun hHeld => ?_)
        clear hK K
        try simp only [Act.put, List.setIfInBounds_toArray, List.set_cons_zero, List.set_cons_succ]
        refine wpAnyH_take (i := 13) (v := ?vm24_13) (by conv => lhs; simp only [List.getElem?_toArray, List.getElem?_cons_succ, List.getElem?_cons_zero]) (by kernel_rfl) (by kernel_rfl) (by kernel_rfl) (by exact fun _ _ _ h => h) (Or.inl ⟨by rfl, ?hym24_13⟩) (by assumption) ?_
        case hym24_13 => (intro w0 hSw; (try dsimp only at hSw); go_simp; (try with_reducible rfl); (try assumption))
        try simp only [Act.put, List.setIfInBounds_toArray, List.set_cons_zero, List.set_cons_succ]
        refine wpAnyH_done (by kernel_rfl) ?_ _
        go_wp2_with fail
        go_meet
        case rel => exact ⟨_, _, _, _, _, rfl, rfl, HBX.out⟩
      case rest =>
      obtain ⟨g, fa, fc, fm, fn, rfl, rfl, hbx⟩ := hcut
      have HBC := Lib.hid hbx.bel; have HGB := Lib.hid hbx.box; have HGR := Lib.hid (hbx.rep.weak (S' := fun _ => True) (fun _ _ _ => trivial)); have HGL := Lib.hid hbx.low
      have HXc := Lib.hid (HXr.out.keep hbx.bel); have HTc := Lib.hid (HTQ.out.keep hbx.bel); have HRY := Lib.hid (HRY0.out.keep hbx.bel); have HGc := Lib.hid (HGr.out.trans (Gro.of hbx.bel))
      have HLc := Lib.hid (show RepS wc (fun b => Sl b ∧ b < w.heap.size) a l from HLQ.out.mono (fun _ h _ => h) (fun b o _ hlt => HBC.out.cell hlt))
      have hblc : bl < wc.heap.size := Nat.lt_of_lt_of_le hbl hbx.bel.size
      have kc : wc.cell? ⟨nc, 1, none⟩ = some (.bool cb) := (hbx.bel.cell HLC.out).trans HKC.out
      have lcc : nc < wc.heap.size := Nat.lt_of_lt_of_le HLC.out hbx.bel.size
      have hbc := hbx.bel
      clear hbx k2 l2 k3 l3
      have k2 := HTc.out.blk.cell; have l2 := HTc.out.blk.lt
      have d0 := (hbc.cell (p := ⟨bl, ol + q * 7, none⟩) hbl).trans d0; have d1 := (hbc.cell (p := ⟨bl, ol + q * 7 + 1, none⟩) hbl).trans d1; have d2 := (hbc.cell (p := ⟨bl, ol + q * 7 + 2, none⟩) hbl).trans d2; have d3 := (hbc.cell (p := ⟨bl, ol + q * 7 + 3, none⟩) hbl).trans d3; have d4 := (hbc.cell (p := ⟨bl, ol + q * 7 + 4, none⟩) hbl).trans d4; have d5 := (hbc.cell (p := ⟨bl, ol + q * 7 + 5, none⟩) hbl).trans d5; have d6 := (hbc.cell (p := ⟨bl, ol + q * 7 + 6, none⟩) hbl).trans d6
      clear hbc
      cases bo with
      | true =>
        have HZ3 := Lib.hid (show N2 ++ y.chk yo l2' = N ++ T.chkM (t.map.take (q + 1)) x cl.bool l from by rw [HZ0.out]; rfl)
        have HBD2 := Lib.hid (show N2.length + (y.chk yo l2').length ≤ 999999000 from by have h := HBD0.out; rw [if_pos rfl, List.length_append] at h; exact h)
        have HBD := Lib.hid (show (y.chk yo l2').length ≤ 999999000 from by have h := HBD2.out; omega)
        go_upto_region 45 with fail
        clear k2 l2 kc lcc
        refine wp_region_tail (S := (fun w' => (∀ i, w'.cell? ⟨g, i, none⟩ = (#[.int .i64 yo.kind, .bool yo.bool, .int .i64 yo.int, .string yo.str, .slice fa yo.list.length fc, .slice fm yo.map.length fn] : Array Value)[i]?) ∧ (∀ i, w'.cell? ⟨n6, i, none⟩ = (#[.int .i64 t.kind, .bool t.bool, .int .i64 t.int, .string t.str, .slice la t.list.length lc, .slice (some ⟨bl, ol, none⟩) t.map.length mc] : Array Value)[i]?) ∧ w'.cell? ⟨bl, ol + q * 7, none⟩ = some (.string key) ∧ w'.cell? ⟨bl, ol + q * 7 + 1, none⟩ = some (.int .i64 y.kind) ∧ w'.cell? ⟨bl, ol + q * 7 + 2, none⟩ = some (.bool y.bool) ∧ w'.cell? ⟨bl, ol + q * 7 + 3, none⟩ = some (.int .i64 y.int) ∧ w'.cell? ⟨bl, ol + q * 7 + 4, none⟩ = some (.string y.str) ∧ w'.cell? ⟨bl, ol + q * 7 + 5, none⟩ = some (.slice yla y.list.length ylc) ∧ w'.cell? ⟨bl, ol + q * 7 + 6, none⟩ = some (.slice yma y.map.length ymc))) 18 (by kernel_rfl) (by kernel_rfl) (by exact ⟨(HGB.out.keep (Below.refl wc.heap.size wc).drew).cell, (HTc.out.blk.keep (Below.refl wc.heap.size wc).drew).cell, (((Below.refl wc.heap.size wc).drew).cell hblc).trans d0, (((Below.refl wc.heap.size wc).drew).cell hblc).trans d1, (((Below.refl wc.heap.size wc).drew).cell hblc).trans d2, (((Below.refl wc.heap.size wc).drew).cell hblc).trans d3, (((Below.refl wc.heap.size wc).drew).cell hblc).trans d4, (((Below.refl wc.heap.size wc).drew).cell hblc).trans d5, (((Below.refl wc.heap.size wc).drew).cell hblc).trans d6⟩) (fun hHeld => ?_)
        simp only [List.dropLast]
        refine wpAnyH_take (i := 0) (v := ?vm25_0) (by conv => lhs; simp only [List.getElem?_toArray, List.getElem?_cons_succ, List.getElem?_cons_zero]) (by kernel_rfl) (by kernel_rfl) (by kernel_rfl) (by exact fun _ _ _ h => h) (Or.inl ⟨by rfl, ?hym25_0⟩) (by assumption) ?_
        case hym25_0 => (intro w0 hSw; (try dsimp only at hSw); go_simp; (try with_reducible rfl); (try assumption))
        try simp only [Act.put, List.setIfInBounds_toArray, List.set_cons_zero, List.set_cons_succ]
        refine wpAnyH_take (i := 1) (v := ?vm25_1) (by conv => lhs; simp only [List.getElem?_toArray, List.getElem?_cons_succ, List.getElem?_cons_zero]) (by kernel_rfl) (by kernel_rfl) (by kernel_rfl) (by exact fun _ _ _ h => h) (Or.inl ⟨by rfl, ?hym25_1⟩) (by assumption) ?_
        case hym25_1 => (intro w0 hSw; (try dsimp only at hSw); go_simp; (try with_reducible rfl); (try assumption))
        try simp only [Act.put, List.setIfInBounds_toArray, List.set_cons_zero, List.set_cons_succ]
        refine wpAnyH_take (i := 2) (v := ?vm25_2) (by conv => lhs; simp only [List.getElem?_toArray, List.getElem?_cons_succ, List.getElem?_cons_zero]) (by kernel_rfl) (by kernel_rfl) (by kernel_rfl) (by exact fun _ _ _ h => h) (Or.inl ⟨by rfl, ?hym25_2⟩) (by assumption) ?_
        case hym25_2 => (intro w0 hSw; (try dsimp only at hSw); go_simp; (try with_reducible rfl); (try assumption))
        try simp only [Act.put, List.setIfInBounds_toArray, List.set_cons_zero, List.set_cons_succ]
        refine wpAnyH_take (i := 3) (v := ?vm25_3) (by conv => lhs; simp only [List.getElem?_toArray, List.getElem?_cons_succ, List.getElem?_cons_zero]) (by kernel_rfl) (by kernel_rfl) (by kernel_rfl) (by exact fun _ _ _ h => h) (Or.inl ⟨by rfl, ?hym25_3⟩) (by assumption) ?_
        case hym25_3 => (intro w0 hSw; (try dsimp only at hSw); go_simp; (try with_reducible rfl); (try assumption))
        try simp only [Act.put, List.setIfInBounds_toArray, List.set_cons_zero, List.set_cons_succ]
        refine wpAnyH_take (i := 4) (v := ?vm25_4) (by conv => lhs; simp only [List.getElem?_toArray, List.getElem?_cons_succ, List.getElem?_cons_zero]) (by kernel_rfl) (by kernel_rfl) (by kernel_rfl) (by exact fun _ _ _ h => h) (Or.inl ⟨by rfl, ?hym25_4⟩) (by assumption) ?_
        case hym25_4 => (intro w0 hSw; (try dsimp only at hSw); go_simp; (try with_reducible rfl); (try assumption))
        try simp only [Act.put, List.setIfInBounds_toArray, List.set_cons_zero, List.set_cons_succ]
        refine wpAnyH_take (i := 5) (v := ?vm25_5) (by conv => lhs; simp only [List.getElem?_toArray, List.getElem?_cons_succ, List.getElem?_cons_zero]) (by kernel_rfl) (by kernel_rfl) (by kernel_rfl) (by exact fun _ _ _ h => h) (Or.inl ⟨by rfl, ?hym25_5⟩) (by assumption) ?_
        case hym25_5 => (intro w0 hSw; (try dsimp only at hSw); go_simp; (try with_reducible rfl); (try assumption))
        try simp only [Act.put, List.setIfInBounds_toArray, List.set_cons_zero, List.set_cons_succ]
        refine wpAnyH_take (i := 6) (v := ?vm25_6) (by conv => lhs; simp only [List.getElem?_toArray, List.getElem?_cons_succ, List.getElem?_cons_zero]) (by kernel_rfl) (by kernel_rfl) (by kernel_rfl) (by exact fun _ _ _ h => h) (Or.inl ⟨by rfl, ?hym25_6⟩) (by assumption) ?_
        case hym25_6 => (intro w0 hSw; (try dsimp only at hSw); go_simp; (try with_reducible rfl); (try assumption))
        try simp only [Act.put, List.setIfInBounds_toArray, List.set_cons_zero, List.set_cons_succ]
        refine wpAnyH_take (i := 7) (v := ?vm25_7) (by conv => lhs; simp only [List.getElem?_toArray, List.getElem?_cons_succ, List.getElem?_cons_zero]) (by kernel_rfl) (by kernel_rfl) (by kernel_rfl) (by exact fun _ _ _ h => h) (Or.inl ⟨by rfl, ?hym25_7⟩) (by assumption) ?_
        case hym25_7 => (intro w0 hSw; (try dsimp only at hSw); go_simp; (try with_reducible rfl); (try assumption))
        try simp only [Act.put, List.setIfInBounds_toArray, List.set_cons_zero, List.set_cons_succ]
        refine wpAnyH_take (i := 8) (v := ?vm25_8) (by conv => lhs; simp only [List.getElem?_toArray, List.getElem?_cons_succ, List.getElem?_cons_zero]) (by kernel_rfl) (by kernel_rfl) (by kernel_rfl) (by exact fun _ _ _ h => h) (Or.inl ⟨by rfl, ?hym25_8⟩) (by assumption) ?_
        case hym25_8 => (intro w0 hSw; (try dsimp only at hSw); go_simp; (try with_reducible rfl); (try assumption))
        try simp only [Act.put, List.setIfInBounds_toArray, List.set_cons_zero, List.set_cons_succ]
        refine wpAnyH_take (i := 9) (v := ?vm25_9) (by conv => lhs; simp only [List.getElem?_toArray, List.getElem?_cons_succ, List.getElem?_cons_zero]) (by kernel_rfl) (by kernel_rfl) (by kernel_rfl) (by exact fun _ _ _ h => h) (Or.inl ⟨by rfl, ?hym25_9⟩) (by assumption) ?_
        case hym25_9 => (intro w0 hSw; (try dsimp only at hSw); go_simp; (try with_reducible rfl); (try assumption))
        try simp only [Act.put, List.setIfInBounds_toArray, List.set_cons_zero, List.set_cons_succ]
        refine wpAnyH_take (i := 10) (v := ?vm25_10) (by conv => lhs; simp only [List.getElem?_toArray, List.getElem?_cons_succ, List.getElem?_cons_zero]) (by kernel_rfl) (by kernel_rfl) (by kernel_rfl) (by exact fun _ _ _ h => h) (Or.inl ⟨by rfl, ?hym25_10⟩) (by assumption) ?_
        case hym25_10 => (intro w0 hSw; (try dsimp only at hSw); go_simp; (try with_reducible rfl); (try assumption))
        try simp only [Act.put, List.setIfInBounds_toArray, List.set_cons_zero, List.set_cons_succ]
        refine wpAnyH_take (i := 11) (v := ?vm25_11) (by conv => lhs; simp only [List.getElem?_toArray, List.getElem?_cons_succ, List.getElem?_cons_zero]) (by kernel_rfl) (by kernel_rfl) (by kernel_rfl) (by exact fun _ _ _ h => h) (Or.inl ⟨by rfl, ?hym25_11⟩) (by assumption) ?_
        case hym25_11 => (intro w0 hSw; (try dsimp only at hSw); go_simp; (try with_reducible rfl); (try assumption))
        try simp only [Act.put, List.setIfInBounds_toArray, List.set_cons_zero, List.set_cons_succ]
        refine wpAnyH_take (i := 12) (v := ?vm25_12) (by conv => lhs; simp only [List.getElem?_toArray, List.getElem?_cons_succ, List.getElem?_cons_zero]) (by kernel_rfl) (by kernel_rfl) (by kernel_rfl) (by exact fun _ _ _ h => h) (Or.inl ⟨by rfl, ?hym25_12⟩) (by assumption) ?_
        case hym25_12 => (intro w0 hSw; (try dsimp only at hSw); go_simp; (try with_reducible rfl); (try assumption))
        try simp only [Act.put, List.setIfInBounds_toArray, List.set_cons_zero, List.set_cons_succ]
        refine wpAnyH_take (i := 13) (v := ?vm25_13) (by conv => lhs; simp only [List.getElem?_toArray, List.getElem?_cons_succ, List.getElem?_cons_zero]) (by kernel_rfl) (by kernel_rfl) (by kernel_rfl) (by exact fun _ _ _ h => h) (Or.inl ⟨by rfl, ?hym25_13⟩) (by assumption) ?_
        case hym25_13 => (intro w0 hSw; (try dsimp only at hSw); go_simp; (try with_reducible rfl); (try assumption))
        try simp only [Act.put, List.setIfInBounds_toArray, List.set_cons_zero, List.set_cons_succ]
        refine wpAnyH_take (i := 14) (v := ?vm25_14) (by conv => lhs; simp only [List.getElem?_toArray, List.getElem?_cons_succ, List.getElem?_cons_zero]) (by kernel_rfl) (by kernel_rfl) (by kernel_rfl) (by exact fun _ _ _ h => h) (Or.inl ⟨by rfl, ?hym25_14⟩) (by assumption) ?_
        case hym25_14 => (intro w0 hSw; (try dsimp only at hSw); go_simp; (try with_reducible rfl); (try assumption))
        try simp only [Act.put, List.setIfInBounds_toArray, List.set_cons_zero, List.set_cons_succ]
        refine wpAnyH_ready (rs := [15]) (by kernel_rfl) (by simp) ?_
        refine AllReadyH.cons (by conv => lhs; simp only [List.getElem?_toArray, List.getElem?_cons_succ, List.getElem?_cons_zero]) (fun K hK => ?_) AllReadyH.nil
        go_simp
        refine (CM.out _ (RepS.mono (w := wc) HLc.out (fun _ h _ => h) (fun b o _ hlt => (Below.refl wc.heap.size wc).drew.cell hlt))).mono ?_
        rintro e w2 ⟨A5, c5, rfl, ho2, hb2⟩
        have HB2 := Lib.hid (Below.next (Below.refl wc.heap.size wc).drew hb2); have HO2 := Lib.hid (show OwnE eltS w2 wc.heap.size (fun _ => True) A5 c5 l2' from ho2)
        clear ho2 hb2
        go_wp2_with fail
        refine hK.out _ _ (by exact ⟨(HGB.out.keep HB2.out).cell, (HTc.out.blk.keep HB2.out).cell, ((HB2.out).cell hblc).trans d0, ((HB2.out).cell hblc).trans d1, ((HB2.out).cell hblc).trans d2, ((HB2.out).cell hblc).trans d3, ((HB2.out).cell hblc).trans d4, ((HB2.out).cell hblc).trans d5, ((HB2.out).cell hblc).trans d6⟩) (fun hHeld => ?_)
        clear hK K
        try simp only [Act.put, List.setIfInBounds_toArray, List.set_cons_zero, List.set_cons_succ]
        refine wpAnyH_ready (rs := [16]) (by kernel_rfl) (by simp) ?_
        refine AllReadyH.cons (by conv => lhs; simp only [List.getElem?_toArray, List.getElem?_cons_succ, List.getElem?_cons_zero]) (fun K hK => ?_) AllReadyH.nil
        go_simp
        refine (HCX.out yo l2' A5 c5 fa fc fm fn yla ylc yma ymc w2 _ (HGR.out.keep HB2.out) (HRY.out.keep HB2.out) HO2.out.repS HFYO.out HFY.out (by have h1 := congrArg List.length HL2.out; have h2 := HWY.out; have h3 := HLN.out; simp only [List.length_append, List.length_singleton] at h1; omega) HBD.out).mono ?_
        rintro e w3 ⟨A6, c6, rfl, hf3, hb3⟩
        have HB3 := Lib.hid (HB2.out.trans (hb3.mono HB2.out.size)); have HF3 := Lib.hid hf3; have HS3 := Lib.hid HB2.out.size
        clear hf3 hb3
        go_wp2_with fail
        refine hK.out _ _ (by exact ⟨(HGB.out.keep HB3.out).cell, (HTc.out.blk.keep HB3.out).cell, ((HB3.out).cell hblc).trans d0, ((HB3.out).cell hblc).trans d1, ((HB3.out).cell hblc).trans d2, ((HB3.out).cell hblc).trans d3, ((HB3.out).cell hblc).trans d4, ((HB3.out).cell hblc).trans d5, ((HB3.out).cell hblc).trans d6⟩) (fun hHeld => ?_)
        clear hK K
        try simp only [Act.put, List.setIfInBounds_toArray, List.set_cons_zero, List.set_cons_succ]
        refine wpAnyH_ready (rs := [17]) (by kernel_rfl) (by simp) ?_
        refine AllReadyH.cons (by conv => lhs; simp only [List.getElem?_toArray, List.getElem?_cons_succ, List.getElem?_cons_zero]) (fun K hK => ?_) AllReadyH.nil
        obtain ⟨A7, c7, w4, hrun, hf4, hg4⟩ := flaw_spread (c2 := c6) (HXc.out.keep HB3.out).fl HF3.out.rep (fun b hb hlt => HXc.out.made HB0.out.size (S2 := fun b => wc.heap.size ≤ b) (fun _ h => h) (B := w3.heap.size) b (by rcases hb with (⟨⟨h, -⟩, -⟩ | h) | h; exact h; exact Nat.le_trans HS3.out h; exact Nat.le_trans HS3.out h) hlt) (by have := HBD2.out; omega) (Nat.le_trans HB0.out.size (HXc.out.keep HB3.out).base.size)
        rw [HZ3.out] at hrun hf4 hg4
        have RUN := Lib.hid hrun; have HX4 := Lib.hid ((HXc.out.keep HB3.out).step hf4 hg4); have HG4b := Lib.hid hg4; have HG4 := Lib.hid ((HGc.out.trans (Gro.of HB3.out)).trans hg4)
        clear hrun hf4 hg4
        refine step_append_run rfl (.tmp 242) (.tmp 258) 34 rfl RUN.out rfl rfl ?_
        refine hK.out _ _ (by exact ⟨(HG4b.out.blk (HGB.out.keep HB3.out) (HXr.out.fresh HGL.out)).cell, (HT0.out.gro HX4.out.gro (fun e => by cases e) (fun _ e => by cases e)).blk.cell, (HX4.out.base.cell haw).trans ((HXc.out.base.cell haw).symm.trans d0), (HX4.out.base.cell haw).trans ((HXc.out.base.cell haw).symm.trans d1), (HX4.out.base.cell haw).trans ((HXc.out.base.cell haw).symm.trans d2), (HX4.out.base.cell haw).trans ((HXc.out.base.cell haw).symm.trans d3), (HX4.out.base.cell haw).trans ((HXc.out.base.cell haw).symm.trans d4), (HX4.out.base.cell haw).trans ((HXc.out.base.cell haw).symm.trans d5), (HX4.out.base.cell haw).trans ((HXc.out.base.cell haw).symm.trans d6)⟩) (fun hHeld => ?_)
        clear hK K
        try simp only [Act.put, List.setIfInBounds_toArray, List.set_cons_zero, List.set_cons_succ]
        refine wpAnyH_done (by kernel_rfl) ?_ _
        refine LastQ.step (by conv => lhs; simp only [List.getElem?_toArray, List.getElem?_cons_succ, List.getElem?_cons_zero]) (fun K hK => ?_)
        go_simp
        refine hK.out _ _ ?_
        clear hK K
        try simp only [Act.put, List.setIfInBounds_toArray, List.set_cons_zero, List.set_cons_succ]
        go_wp2_with fail
        go_roundw
        case rel => exact ⟨q + 1, A7, c7, by omega, by go_num, by first | rfl | (rw [List.length_append]; done) | simp, HX4, HG4⟩
        case measure => simp [Lib.intOf]; omega
      | false =>
        cases cb with
        | false =>
          have HZ3 := Lib.hid (show N2 = N ++ T.chkM (t.map.take (q + 1)) x cl.bool l from by rw [HZ0.out]; simp)
          go_wp2_with fail
          go_roundw
          case rel => exact ⟨q + 1, A2, c2, by omega, by go_num, by first | (rw [← HZ3.out]) | (rw [← List.length_append, ← HZ3.out]), by rw [← HZ3.out]; exact HXc, by rw [← HZ3.out]; exact HGc⟩
          case measure => simp [Lib.intOf]; omega
        | true =>
          have HZ3 := Lib.hid (show N2 ++ [(3, l2')] = N ++ T.chkM (t.map.take (q + 1)) x cl.bool l from by rw [HZ0.out]; rfl)
          have HBD := Lib.hid (show N2.length ≤ 999999000 from by have h := HBD0.out; rw [List.length_append] at h; omega)
          go_wp2_with fail
          refine (CM.out _ (RepS.mono (w := wr) HLQ.out (fun _ h _ => h) (fun b o _ hlt => HBC.out.cell hlt))).mono ?_
          rintro e w2 ⟨A5, c5, rfl, ho2, hb2⟩
          have HB2 := Lib.hid (HBC.out.trans (hb2.mono HBC.out.size)); have HO2 := Lib.hid ho2; have HS2 := Lib.hid HBC.out.size
          clear ho2 hb2
          obtain ⟨A7, c7, w4, hrun, hf4, hg4⟩ := flaw_append 3 (ac := c5) (HXr.out.keep HB2.out).fl HO2.out.repS (fun b hb hlt => HXr.out.made HB0.out.size (S2 := fun b => wr.heap.size ≤ b) (fun _ h => h) (B := w2.heap.size) b (Nat.le_trans HS2.out hb.1) hlt) (by have := HBD.out; omega) (Nat.le_trans HB0.out.size (HXr.out.keep HB2.out).base.size)
          rw [HZ3.out] at hrun hf4 hg4
          have RUN := Lib.hid hrun; have HX4 := Lib.hid ((HXr.out.keep HB2.out).step hf4 hg4); have HG4 := Lib.hid ((HGr.out.trans (Gro.of HB2.out)).trans hg4)
          clear hrun hf4 hg4
          go_wp2_with (at_builtin; refine wpList_append_run rfl (.tmp 262) (.tmp 272) 34 rfl RUN.out rfl rfl ?_)
          go_roundw
          case rel => exact ⟨q + 1, A7, c7, by omega, by go_num, by first | rfl | (rw [List.length_append]; done) | simp, HX4, HG4⟩
          case measure => simp [Lib.intOf]; omega
    · have hq' : q = t.map.length := by omega
      subst hq'
      rw [List.take_length] at HN2
      go_wp2_with fail
      rw [HN2.out]
      exact HQ.out A2 c2 _ _ _ _ _ _ _ _ _ _ _ _ _ _ _ _ _ _ _ _ _ _ _ _ _ _ _ _ _ _ _ _ _ _ _ _ _ _ _ _ _ _ _ _ _ _ _ _ _ _ _ _ _ _ _ (by rw [← HN2.out]; exact HXr)
set_option maxRecDepth 100000 in
set_option maxHeartbeats 16000000 in
theorem rcheck_step (t : T) (hLI : ∀ x ∈ t.list, RCheckOk x) (hMI : ∀ q ∈ t.map, RCheckOk q.2) : RCheckOk t := by
  intro s l a ac sla slc sma smc la lc ma mc w Sl hs ht hl hfs hft hn hF
  have hb0 : Below w.heap.size w ((w.alloc (.cells #[.int .i64 s.kind, .bool s.bool, .int .i64 s.int, .string s.str, .slice sla s.list.length slc, .slice sma s.map.length smc] 25)).alloc (.cells #[.int .i64 t.kind, .bool t.bool, .int .i64 t.int, .string t.str, .slice la t.list.length lc, .slice ma t.map.length mc] 25)) := (Below.new _ _).alloc (by simp) _
  have HS0 := Lib.hid (show RBox ((w.alloc (.cells #[.int .i64 s.kind, .bool s.bool, .int .i64 s.int, .string s.str, .slice sla s.list.length slc, .slice sma s.map.length smc] 25)).alloc (.cells #[.int .i64 t.kind, .bool t.bool, .int .i64 t.int, .string t.str, .slice la t.list.length lc, .slice ma t.map.length mc] 25)) ((w.alloc (.cells #[.int .i64 s.kind, .bool s.bool, .int .i64 s.int, .string s.str, .slice sla s.list.length slc, .slice sma s.map.length smc] 25)).alloc (.cells #[.int .i64 t.kind, .bool t.bool, .int .i64 t.int, .string t.str, .slice la t.list.length lc, .slice ma t.map.length mc] 25)) w.heap.size s sla slc sma smc from ⟨(Blk.new _ _ _).alloc _, hs.to hb0⟩)
  have HT0 := Lib.hid (show RBox ((w.alloc (.cells #[.int .i64 s.kind, .bool s.bool, .int .i64 s.int, .string s.str, .slice sla s.list.length slc, .slice sma s.map.length smc] 25)).alloc (.cells #[.int .i64 t.kind, .bool t.bool, .int .i64 t.int, .string t.str, .slice la t.list.length lc, .slice ma t.map.length mc] 25)) ((w.alloc (.cells #[.int .i64 s.kind, .bool s.bool, .int .i64 s.int, .string s.str, .slice sla s.list.length slc, .slice sma s.map.length smc] 25)).alloc (.cells #[.int .i64 t.kind, .bool t.bool, .int .i64 t.int, .string t.str, .slice la t.list.length lc, .slice ma t.map.length mc] 25)) (w.heap.size + 1) t la lc ma mc from ⟨Blk.new_at _ _ _ (by simp), ht.to hb0⟩)
  have HL0 := Lib.hid (show RepS ((w.alloc (.cells #[.int .i64 s.kind, .bool s.bool, .int .i64 s.int, .string s.str, .slice sla s.list.length slc, .slice sma s.map.length smc] 25)).alloc (.cells #[.int .i64 t.kind, .bool t.bool, .int .i64 t.int, .string t.str, .slice la t.list.length lc, .slice ma t.map.length mc] 25)) (fun b => Sl b ∧ b < w.heap.size) a l from hl.mono (fun b h hlt => ⟨h, hlt⟩) (fun b o _ hlt => hb0.cell hlt))
  have HB0 := Lib.hid hb0
  have HFS := Lib.hid hfs; have HFT := Lib.hid hft
  have hln : l.length ≤ 1000000 := by omega
  have HLN := Lib.hid hn; have HFN := Lib.hid hF
  have HLI := Lib.hid hLI; have HMI := Lib.hid hMI
  have hps := hfs.1; have hpt := hft.1
  obtain ⟨hk0, hk5⟩ := hft.kind
  obtain ⟨W0, e0⟩ : ∃ z, z = ((w.alloc (.cells #[.int .i64 s.kind, .bool s.bool, .int .i64 s.int, .string s.str, .slice sla s.list.length slc, .slice sma s.map.length smc] 25)).alloc (.cells #[.int .i64 t.kind, .bool t.bool, .int .i64 t.int, .string t.str, .slice la t.list.length lc, .slice ma t.map.length mc] 25)) := ⟨_, rfl⟩
  obtain ⟨n5, e5⟩ : ∃ n, n = w.heap.size := ⟨_, rfl⟩
  obtain ⟨n6, e6⟩ : ∃ n, n = w.heap.size + 1 := ⟨_, rfl⟩
  rw [← e0, ← e5] at HS0
  rw [← e0, ← e6] at HT0
  rw [← e0] at HL0 HB0
  have E0 := Lib.hid e0; have E5 := Lib.hid e5; have E6 := Lib.hid e6
  clear e0 e5 e6 hb0 hs ht hl hfs hft hn hF hLI hMI
  go_enter Tryd.func10, Tryd.ntmps10
  refine wp_seq_cut (fun K0 hK0 => ?_)
  go_wp2_with fail
  refine hK0.out _ _ ?_
  rw [← E0.out, ← E6.out, ← E5.out]
  clear E0 E5 E6 hK0 K0
  refine wp_seq_cut (fun K0 hK0 => ?_)
  go_wp2_with fail
  refine hK0.out _ _ ?_
  clear hK0 K0
  -- the type
  refine wp_seq_cut (fun K1 hK1 => ?_)
  go_cut [] (fun wx => Hid (typeBad s t = false) ∧ Hid (Below W0.heap.size W0 wx))
  case first =>
    have k1 := HS0.out.blk.cell; have l1 := HS0.out.blk.lt
    go_wp2_with fail
    refine (rget25 hps _ typeW _ _ HS0.out.rep).mono ?_
    rintro e w1 ⟨v1, rfl, hr1, hb1⟩
    obtain ⟨qa, qc, qm, qn, rfl, -⟩ := hr1.inv
    have HW1 := Lib.hid hb1
    have M2 := Lib.hid (HT0.out.blk.keep hb1)
    obtain ⟨o, ho⟩ : ∃ o, o = getT s typeW := ⟨_, rfl⟩
    have HO := Lib.hid ho
    rw [← ho]
    clear hr1 hb1 k1 l1 ho
    cases o with
    | none =>
      go_wp2_with fail
      go_quiet (fail)
      go_wp2_with fail
      go_meet
      case rel => exact ⟨Lib.hid (by unfold typeBad; rw [← HO.out]), Lib.hid (Below.drewN (HW1.out.alloc HW1.out.size _) _)⟩
    | some x =>
      have hba : Below W0.heap.size W0 (w1.alloc (.cells #[.int .i64 x.kind, .bool x.bool, .int .i64 x.int, .string x.str, .slice qa x.list.length qc, .slice qm x.map.length qn] 25)) := HW1.out.alloc HW1.out.size _
      have hma : Blk (w1.alloc (.cells #[.int .i64 x.kind, .bool x.bool, .int .i64 x.int, .string x.str, .slice qa x.list.length qc, .slice qm x.map.length qn] 25)) w1.heap.size 25 #[.int .i64 x.kind, .bool x.bool, .int .i64 x.int, .string x.str, .slice qa x.list.length qc, .slice qm x.map.length qn] := Blk.new _ _ _
      have hmt : Blk (w1.alloc (.cells #[.int .i64 x.kind, .bool x.bool, .int .i64 x.int, .string x.str, .slice qa x.list.length qc, .slice qm x.map.length qn] 25)) n6 25 #[.int .i64 t.kind, .bool t.bool, .int .i64 t.int, .string t.str, .slice la t.list.length lc, .slice ma t.map.length mc] := M2.out.alloc _
      go_upto_region 3 with fail
      obtain ⟨WA, eA⟩ : ∃ z, z = w1.alloc (.cells #[.int .i64 x.kind, .bool x.bool, .int .i64 x.int, .string x.str, .slice qa x.list.length qc, .slice qm x.map.length qn] 25) := ⟨_, rfl⟩
      rw [← eA] at hba hma hmt
      rw [← eA]
      have HWA := Lib.hid hba; have MX := Lib.hid hma; have MT := Lib.hid hmt
      clear eA hba hma hmt M2 HW1
      have HTB := Lib.hid (show typeBad s t = (decide (x.str ≠ anyW) && decide (x.str ≠ kindW t.kind)) from by unfold typeBad; rw [← HO.out])
      have hxs : ∀ y : ByteArray, (x.str.toList == y.toList) = decide (x.str = y) := fun y => keq_iff _ _
      clear HO
      by_cases ha : x.str = anyW
      · have g1 : (x.str.toList != [97, 110, 121]) = false := by show (!(x.str.toList == [97, 110, 121])) = false; rw [show ([97, 110, 121] : List UInt8) = anyW.toList from by rw [ByteArray.toList_eq]; rfl, hxs, decide_eq_true ha]; rfl
        have g1p : x.str.toList = [97, 110, 121] := by rw [ha, ByteArray.toList_eq]; rfl
        have HF := Lib.hid (show typeBad s t = false from by rw [HTB.out, ha]; simp)
        clear HTB ha hxs
        refine wp_region_held_drew (S := (fun w' => (∀ i, w'.cell? ⟨w1.heap.size, i, none⟩ = (#[.int .i64 x.kind, .bool x.bool, .int .i64 x.int, .string x.str, .slice qa x.list.length qc, .slice qm x.map.length qn] : Array Value)[i]?) ∧ (∀ i, w'.cell? ⟨n6, i, none⟩ = (#[.int .i64 t.kind, .bool t.bool, .int .i64 t.int, .string t.str, .slice la t.list.length lc, .slice ma t.map.length mc] : Array Value)[i]?))) (by kernel_rfl) (by exact ⟨(MX.out.keep (Below.refl _ _).drew).cell, (MT.out.keep (Below.refl _ _).drew).cell⟩) (fun hHeld => ?_)
        refine wpAnyH_take (i := 0) (v := ?vm29_0) (by conv => lhs; simp only [List.getElem?_toArray, List.getElem?_cons_succ, List.getElem?_cons_zero]) (by kernel_rfl) (by kernel_rfl) (by kernel_rfl) (by exact fun _ _ _ h => h) (Or.inl ⟨by rfl, ?hym29_0⟩) (by assumption) ?_
        case hym29_0 => (intro w0 hSw; (try dsimp only at hSw); go_simp; (try with_reducible rfl); (try assumption))
        try simp only [Act.put, List.setIfInBounds_toArray, List.set_cons_zero, List.set_cons_succ]
        refine wpAnyH_take (i := 1) (v := ?vm29_1) (by conv => lhs; simp only [List.getElem?_toArray, List.getElem?_cons_succ, List.getElem?_cons_zero]) (by kernel_rfl) (by kernel_rfl) (by kernel_rfl) (by exact fun _ _ _ h => h) (Or.inl ⟨by rfl, ?hym29_1⟩) (by assumption) ?_
        case hym29_1 => (intro w0 hSw; (try dsimp only at hSw); go_simp; (try with_reducible rfl); (try assumption))
        try simp only [Act.put, List.setIfInBounds_toArray, List.set_cons_zero, List.set_cons_succ]
        refine wpAnyH_take (i := 2) (v := ?vm29_2) (by conv => lhs; simp only [List.getElem?_toArray, List.getElem?_cons_succ, List.getElem?_cons_zero]) (by kernel_rfl) (by kernel_rfl) (by kernel_rfl) (by exact fun _ _ _ h => h) (Or.inl ⟨by rfl, ?hym29_2⟩) (by assumption) ?_
        case hym29_2 => (intro w0 hSw; (try dsimp only at hSw); go_simp; (try with_reducible rfl); (try assumption))
        try simp only [Act.put, List.setIfInBounds_toArray, List.set_cons_zero, List.set_cons_succ]
        refine wpAnyH_take (i := 3) (v := ?vm29_3) (by conv => lhs; simp only [List.getElem?_toArray, List.getElem?_cons_succ, List.getElem?_cons_zero]) (by kernel_rfl) (by kernel_rfl) (by kernel_rfl) (by exact fun _ _ _ h => h) (Or.inl ⟨by rfl, ?hym29_3⟩) (by assumption) ?_
        case hym29_3 => (intro w0 hSw; (try dsimp only at hSw); go_simp; (try with_reducible rfl); (try assumption))
        try simp only [Act.put, List.setIfInBounds_toArray, List.set_cons_zero, List.set_cons_succ]
        refine wpAnyH_take (i := 4) (v := .bool false) (by conv => lhs; simp only [List.getElem?_toArray, List.getElem?_cons_succ, List.getElem?_cons_zero]) (by kernel_rfl) (by kernel_rfl) (by kernel_rfl) (by exact fun _ _ _ h => h) (Or.inl ⟨by rfl, ?hym29_4⟩) (by assumption) ?_
        case hym29_4 => (intro w0 hSw; (try dsimp only at hSw); go_simp; (try with_reducible rfl); (try assumption))
        try simp only [Act.put, List.setIfInBounds_toArray, List.set_cons_zero, List.set_cons_succ]
        refine wpAnyH_take (i := 5) (v := .bool false) (by conv => lhs; simp only [List.getElem?_toArray, List.getElem?_cons_succ, List.getElem?_cons_zero]) (by kernel_rfl) (by kernel_rfl) (by kernel_rfl) (by exact fun _ _ _ h => h) (Or.inl ⟨by rfl, ?hym29_5⟩) (by assumption) ?_
        case hym29_5 => (intro w0 hSw; (try dsimp only at hSw); go_simp; (try with_reducible rfl); (try assumption))
        try simp only [Act.put, List.setIfInBounds_toArray, List.set_cons_zero, List.set_cons_succ]
        refine wpAnyH_take (i := 6) (v := .bool false) (by conv => lhs; simp only [List.getElem?_toArray, List.getElem?_cons_succ, List.getElem?_cons_zero]) (by kernel_rfl) (by kernel_rfl) (by kernel_rfl) (by exact fun _ _ _ h => h) (Or.inl ⟨by rfl, ?hym29_6⟩) (by assumption) ?_
        case hym29_6 => (intro w0 hSw; (try dsimp only at hSw); go_simp; (try with_reducible rfl); (try assumption))
        try simp only [Act.put, List.setIfInBounds_toArray, List.set_cons_zero, List.set_cons_succ]
        refine wpAnyH_take (i := 7) (v := undef) (by conv => lhs; simp only [List.getElem?_toArray, List.getElem?_cons_succ, List.getElem?_cons_zero]) (by kernel_rfl) (by kernel_rfl) (by kernel_rfl) (by exact fun _ _ _ h => h) (Or.inr ⟨by rfl, rfl⟩) (by assumption) ?_
        try simp only [Act.put, List.setIfInBounds_toArray, List.set_cons_zero, List.set_cons_succ]
        refine wpAnyH_take (i := 8) (v := undef) (by conv => lhs; simp only [List.getElem?_toArray, List.getElem?_cons_succ, List.getElem?_cons_zero]) (by kernel_rfl) (by kernel_rfl) (by kernel_rfl) (by exact fun _ _ _ h => h) (Or.inr ⟨by rfl, rfl⟩) (by assumption) ?_
        try simp only [Act.put, List.setIfInBounds_toArray, List.set_cons_zero, List.set_cons_succ]
        refine wpAnyH_take (i := 9) (v := undef) (by conv => lhs; simp only [List.getElem?_toArray, List.getElem?_cons_succ, List.getElem?_cons_zero]) (by kernel_rfl) (by kernel_rfl) (by kernel_rfl) (by exact fun _ _ _ h => h) (Or.inr ⟨by rfl, rfl⟩) (by assumption) ?_
        try simp only [Act.put, List.setIfInBounds_toArray, List.set_cons_zero, List.set_cons_succ]
        refine wpAnyH_take (i := 10) (v := undef) (by conv => lhs; simp only [List.getElem?_toArray, List.getElem?_cons_succ, List.getElem?_cons_zero]) (by kernel_rfl) (by kernel_rfl) (by kernel_rfl) (by exact fun _ _ _ h => h) (Or.inr ⟨by rfl, rfl⟩) (by assumption) ?_
        try simp only [Act.put, List.setIfInBounds_toArray, List.set_cons_zero, List.set_cons_succ]
        refine wpAnyH_take (i := 11) (v := undef) (by conv => lhs; simp only [List.getElem?_toArray, List.getElem?_cons_succ, List.getElem?_cons_zero]) (by kernel_rfl) (by kernel_rfl) (by kernel_rfl) (by exact fun _ _ _ h => h) (Or.inr ⟨by rfl, rfl⟩) (by assumption) ?_
        try simp only [Act.put, List.setIfInBounds_toArray, List.set_cons_zero, List.set_cons_succ]
        refine wpAnyH_take (i := 12) (v := undef) (by conv => lhs; simp only [List.getElem?_toArray, List.getElem?_cons_succ, List.getElem?_cons_zero]) (by kernel_rfl) (by kernel_rfl) (by kernel_rfl) (by exact fun _ _ _ h => h) (Or.inr ⟨by rfl, rfl⟩) (by assumption) ?_
        try simp only [Act.put, List.setIfInBounds_toArray, List.set_cons_zero, List.set_cons_succ]
        refine wpAnyH_take (i := 13) (v := .bool false) (by conv => lhs; simp only [List.getElem?_toArray, List.getElem?_cons_succ, List.getElem?_cons_zero]) (by kernel_rfl) (by kernel_rfl) (by kernel_rfl) (by exact fun _ _ _ h => h) (Or.inl ⟨by rfl, ?hym29_13⟩) (by assumption) ?_
        case hym29_13 => (intro w0 hSw; (try dsimp only at hSw); go_simp; (try with_reducible rfl); (try assumption))
        try simp only [Act.put, List.setIfInBounds_toArray, List.set_cons_zero, List.set_cons_succ]
        refine wpAnyH_done (by kernel_rfl) ?_ _
        go_wp2_with fail
        go_meet
        case rel => exact ⟨HF, Lib.hid (Below.drew HWA.out)⟩
      have g1 : (x.str.toList != [97, 110, 121]) = true := by show (!(x.str.toList == [97, 110, 121])) = true; rw [show ([97, 110, 121] : List UInt8) = anyW.toList from by rw [ByteArray.toList_eq]; rfl, hxs, decide_eq_false ha]; rfl
      have g1p : ¬ x.str.toList = [97, 110, 121] := fun e => ha (of_decide_eq_true ((hxs _).symm.trans (by rw [e, ByteArray.toList_eq]; rfl)))
      by_cases hkk : x.str = kindW t.kind
      · have g2 : (x.str.toList != (kindW t.kind).toList) = false := by show (!(x.str.toList == (kindW t.kind).toList)) = false; rw [hxs, decide_eq_true hkk]; rfl
        have g2p : x.str.toList = (kindW t.kind).toList := congrArg ByteArray.toList hkk
        have g2q : ¬ (kindW t.kind).toList = [97, 110, 121] := g2p ▸ g1p
        have HF := Lib.hid (show typeBad s t = false from by rw [HTB.out]; simp [hkk])
        clear HTB ha hxs hkk
        refine wp_region_held_drew (S := (fun w' => (∀ i, w'.cell? ⟨w1.heap.size, i, none⟩ = (#[.int .i64 x.kind, .bool x.bool, .int .i64 x.int, .string x.str, .slice qa x.list.length qc, .slice qm x.map.length qn] : Array Value)[i]?) ∧ (∀ i, w'.cell? ⟨n6, i, none⟩ = (#[.int .i64 t.kind, .bool t.bool, .int .i64 t.int, .string t.str, .slice la t.list.length lc, .slice ma t.map.length mc] : Array Value)[i]?))) (by kernel_rfl) (by exact ⟨(MX.out.keep (Below.refl _ _).drew).cell, (MT.out.keep (Below.refl _ _).drew).cell⟩) (fun hHeld => ?_)
        refine wpAnyH_take (i := 0) (v := ?vm30_0) (by conv => lhs; simp only [List.getElem?_toArray, List.getElem?_cons_succ, List.getElem?_cons_zero]) (by kernel_rfl) (by kernel_rfl) (by kernel_rfl) (by exact fun _ _ _ h => h) (Or.inl ⟨by rfl, ?hym30_0⟩) (by assumption) ?_
        case hym30_0 => (intro w0 hSw; (try dsimp only at hSw); go_simp; (try with_reducible rfl); (try assumption))
        try simp only [Act.put, List.setIfInBounds_toArray, List.set_cons_zero, List.set_cons_succ]
        refine wpAnyH_take (i := 1) (v := ?vm30_1) (by conv => lhs; simp only [List.getElem?_toArray, List.getElem?_cons_succ, List.getElem?_cons_zero]) (by kernel_rfl) (by kernel_rfl) (by kernel_rfl) (by exact fun _ _ _ h => h) (Or.inl ⟨by rfl, ?hym30_1⟩) (by assumption) ?_
        case hym30_1 => (intro w0 hSw; (try dsimp only at hSw); go_simp; (try with_reducible rfl); (try assumption))
        try simp only [Act.put, List.setIfInBounds_toArray, List.set_cons_zero, List.set_cons_succ]
        refine wpAnyH_take (i := 2) (v := ?vm30_2) (by conv => lhs; simp only [List.getElem?_toArray, List.getElem?_cons_succ, List.getElem?_cons_zero]) (by kernel_rfl) (by kernel_rfl) (by kernel_rfl) (by exact fun _ _ _ h => h) (Or.inl ⟨by rfl, ?hym30_2⟩) (by assumption) ?_
        case hym30_2 => (intro w0 hSw; (try dsimp only at hSw); go_simp; (try with_reducible rfl); (try assumption))
        try simp only [Act.put, List.setIfInBounds_toArray, List.set_cons_zero, List.set_cons_succ]
        refine wpAnyH_take (i := 3) (v := ?vm30_3) (by conv => lhs; simp only [List.getElem?_toArray, List.getElem?_cons_succ, List.getElem?_cons_zero]) (by kernel_rfl) (by kernel_rfl) (by kernel_rfl) (by exact fun _ _ _ h => h) (Or.inl ⟨by rfl, ?hym30_3⟩) (by assumption) ?_
        case hym30_3 => (intro w0 hSw; (try dsimp only at hSw); go_simp; (try with_reducible rfl); (try assumption))
        try simp only [Act.put, List.setIfInBounds_toArray, List.set_cons_zero, List.set_cons_succ]
        refine wpAnyH_take (i := 4) (v := .bool true) (by conv => lhs; simp only [List.getElem?_toArray, List.getElem?_cons_succ, List.getElem?_cons_zero]) (by kernel_rfl) (by kernel_rfl) (by kernel_rfl) (by exact fun _ _ _ h => h) (Or.inl ⟨by rfl, ?hym30_4⟩) (by assumption) ?_
        case hym30_4 => (intro w0 hSw; (try dsimp only at hSw); go_simp; (try with_reducible rfl); (try assumption))
        try simp only [Act.put, List.setIfInBounds_toArray, List.set_cons_zero, List.set_cons_succ]
        refine wpAnyH_take (i := 5) (v := .bool true) (by conv => lhs; simp only [List.getElem?_toArray, List.getElem?_cons_succ, List.getElem?_cons_zero]) (by kernel_rfl) (by kernel_rfl) (by kernel_rfl) (by exact fun _ _ _ h => h) (Or.inl ⟨by rfl, ?hym30_5⟩) (by assumption) ?_
        case hym30_5 => (intro w0 hSw; (try dsimp only at hSw); go_simp; (try with_reducible rfl); (try assumption))
        try simp only [Act.put, List.setIfInBounds_toArray, List.set_cons_zero, List.set_cons_succ]
        refine wpAnyH_take (i := 6) (v := .bool true) (by conv => lhs; simp only [List.getElem?_toArray, List.getElem?_cons_succ, List.getElem?_cons_zero]) (by kernel_rfl) (by kernel_rfl) (by kernel_rfl) (by exact fun _ _ _ h => h) (Or.inl ⟨by rfl, ?hym30_6⟩) (by assumption) ?_
        case hym30_6 => (intro w0 hSw; (try dsimp only at hSw); go_simp; (try with_reducible rfl); (try assumption))
        try simp only [Act.put, List.setIfInBounds_toArray, List.set_cons_zero, List.set_cons_succ]
        refine wpAnyH_take (i := 7) (v := ?vm30_7) (by conv => lhs; simp only [List.getElem?_toArray, List.getElem?_cons_succ, List.getElem?_cons_zero]) (by kernel_rfl) (by kernel_rfl) (by kernel_rfl) (by exact fun _ _ _ h => h) (Or.inl ⟨by rfl, ?hym30_7⟩) (by assumption) ?_
        case hym30_7 => (intro w0 hSw; (try dsimp only at hSw); go_simp; (try with_reducible rfl); (try assumption))
        try simp only [Act.put, List.setIfInBounds_toArray, List.set_cons_zero, List.set_cons_succ]
        refine wpAnyH_take (i := 8) (v := ?vm30_8) (by conv => lhs; simp only [List.getElem?_toArray, List.getElem?_cons_succ, List.getElem?_cons_zero]) (by kernel_rfl) (by kernel_rfl) (by kernel_rfl) (by exact fun _ _ _ h => h) (Or.inl ⟨by rfl, ?hym30_8⟩) (by assumption) ?_
        case hym30_8 => (intro w0 hSw; (try dsimp only at hSw); go_simp; (try with_reducible rfl); (try assumption))
        try simp only [Act.put, List.setIfInBounds_toArray, List.set_cons_zero, List.set_cons_succ]
        refine wpAnyH_take (i := 9) (v := ?vm30_9) (by conv => lhs; simp only [List.getElem?_toArray, List.getElem?_cons_succ, List.getElem?_cons_zero]) (by kernel_rfl) (by kernel_rfl) (by kernel_rfl) (by exact fun _ _ _ h => h) (Or.inl ⟨by rfl, ?hym30_9⟩) (by assumption) ?_
        case hym30_9 => (intro w0 hSw; (try dsimp only at hSw); go_simp; (try with_reducible rfl); (try assumption))
        try simp only [Act.put, List.setIfInBounds_toArray, List.set_cons_zero, List.set_cons_succ]
        refine wpAnyH_take (i := 10) (v := ?vm30_10) (by conv => lhs; simp only [List.getElem?_toArray, List.getElem?_cons_succ, List.getElem?_cons_zero]) (by kernel_rfl) (by kernel_rfl) (by kernel_rfl) (by exact fun _ _ _ h => h) (Or.inl ⟨by rfl, ?hym30_10⟩) (by assumption) ?_
        case hym30_10 => (intro w0 hSw; (try dsimp only at hSw); go_simp; (try with_reducible rfl); (try assumption))
        try simp only [Act.put, List.setIfInBounds_toArray, List.set_cons_zero, List.set_cons_succ]
        refine wpAnyH_ready (rs := [11]) (by kernel_rfl) (by simp) ?_
        refine AllReadyH.cons (by conv => lhs; simp only [List.getElem?_toArray, List.getElem?_cons_succ, List.getElem?_cons_zero]) (fun K hK => ?_) AllReadyH.nil
        go_simp
        refine (rkind25 t.kind hk0 hk5 _).mono ?_
        rintro e w9 ⟨rfl, hb9⟩
        have HB9 := Lib.hid (Below.next (Below.refl WA.heap.size WA).drew hb9)
        clear hb9
        go_wp2_with fail
        refine hK.out _ _ (by exact ⟨(MX.out.keep HB9.out).cell, (MT.out.keep HB9.out).cell⟩) (fun hHeld => ?_)
        clear hK K
        try simp only [Act.put, List.setIfInBounds_toArray, List.set_cons_zero, List.set_cons_succ]
        refine wpAnyH_take (i := 12) (v := .bool false) (by conv => lhs; simp only [List.getElem?_toArray, List.getElem?_cons_succ, List.getElem?_cons_zero]) (by kernel_rfl) (by kernel_rfl) (by kernel_rfl) (by exact fun _ _ _ h => h) (Or.inl ⟨by rfl, ?hym31_12⟩) (by assumption) ?_
        case hym31_12 => (intro w0 hSw; (try dsimp only at hSw); go_simp; (try with_reducible rfl); (try assumption))
        try simp only [Act.put, List.setIfInBounds_toArray, List.set_cons_zero, List.set_cons_succ]
        refine wpAnyH_take (i := 13) (v := .bool false) (by conv => lhs; simp only [List.getElem?_toArray, List.getElem?_cons_succ, List.getElem?_cons_zero]) (by kernel_rfl) (by kernel_rfl) (by kernel_rfl) (by exact fun _ _ _ h => h) (Or.inl ⟨by rfl, ?hym31_13⟩) (by assumption) ?_
        case hym31_13 => (intro w0 hSw; (try dsimp only at hSw); go_simp; (try with_reducible rfl); (try assumption))
        try simp only [Act.put, List.setIfInBounds_toArray, List.set_cons_zero, List.set_cons_succ]
        refine wpAnyH_done (by kernel_rfl) ?_ _
        go_wp2_with fail
        go_meet
        case rel => exact ⟨HF, Lib.hid (HWA.out.trans (HB9.out.mono HWA.out.size))⟩
      have g2 : (x.str.toList != (kindW t.kind).toList) = true := by show (!(x.str.toList == (kindW t.kind).toList)) = true; rw [hxs, decide_eq_false hkk]; rfl
      have g2p : ¬ x.str.toList = (kindW t.kind).toList := fun e => hkk (of_decide_eq_true ((hxs _).symm.trans (by rw [e]; simp)))
      have HF := Lib.hid (show typeBad s t = true from by rw [HTB.out]; simp [ha, hkk])
      clear HTB ha hxs hkk
      refine wp_region_held_drew (S := (fun w' => (∀ i, w'.cell? ⟨w1.heap.size, i, none⟩ = (#[.int .i64 x.kind, .bool x.bool, .int .i64 x.int, .string x.str, .slice qa x.list.length qc, .slice qm x.map.length qn] : Array Value)[i]?) ∧ (∀ i, w'.cell? ⟨n6, i, none⟩ = (#[.int .i64 t.kind, .bool t.bool, .int .i64 t.int, .string t.str, .slice la t.list.length lc, .slice ma t.map.length mc] : Array Value)[i]?))) (by kernel_rfl) (by exact ⟨(MX.out.keep (Below.refl _ _).drew).cell, (MT.out.keep (Below.refl _ _).drew).cell⟩) (fun hHeld => ?_)
      refine wpAnyH_take (i := 0) (v := ?vm32_0) (by conv => lhs; simp only [List.getElem?_toArray, List.getElem?_cons_succ, List.getElem?_cons_zero]) (by kernel_rfl) (by kernel_rfl) (by kernel_rfl) (by exact fun _ _ _ h => h) (Or.inl ⟨by rfl, ?hym32_0⟩) (by assumption) ?_
      case hym32_0 => (intro w0 hSw; (try dsimp only at hSw); go_simp; (try with_reducible rfl); (try assumption))
      try simp only [Act.put, List.setIfInBounds_toArray, List.set_cons_zero, List.set_cons_succ]
      refine wpAnyH_take (i := 1) (v := ?vm32_1) (by conv => lhs; simp only [List.getElem?_toArray, List.getElem?_cons_succ, List.getElem?_cons_zero]) (by kernel_rfl) (by kernel_rfl) (by kernel_rfl) (by exact fun _ _ _ h => h) (Or.inl ⟨by rfl, ?hym32_1⟩) (by assumption) ?_
      case hym32_1 => (intro w0 hSw; (try dsimp only at hSw); go_simp; (try with_reducible rfl); (try assumption))
      try simp only [Act.put, List.setIfInBounds_toArray, List.set_cons_zero, List.set_cons_succ]
      refine wpAnyH_take (i := 2) (v := ?vm32_2) (by conv => lhs; simp only [List.getElem?_toArray, List.getElem?_cons_succ, List.getElem?_cons_zero]) (by kernel_rfl) (by kernel_rfl) (by kernel_rfl) (by exact fun _ _ _ h => h) (Or.inl ⟨by rfl, ?hym32_2⟩) (by assumption) ?_
      case hym32_2 => (intro w0 hSw; (try dsimp only at hSw); go_simp; (try with_reducible rfl); (try assumption))
      try simp only [Act.put, List.setIfInBounds_toArray, List.set_cons_zero, List.set_cons_succ]
      refine wpAnyH_take (i := 3) (v := ?vm32_3) (by conv => lhs; simp only [List.getElem?_toArray, List.getElem?_cons_succ, List.getElem?_cons_zero]) (by kernel_rfl) (by kernel_rfl) (by kernel_rfl) (by exact fun _ _ _ h => h) (Or.inl ⟨by rfl, ?hym32_3⟩) (by assumption) ?_
      case hym32_3 => (intro w0 hSw; (try dsimp only at hSw); go_simp; (try with_reducible rfl); (try assumption))
      try simp only [Act.put, List.setIfInBounds_toArray, List.set_cons_zero, List.set_cons_succ]
      refine wpAnyH_take (i := 4) (v := .bool true) (by conv => lhs; simp only [List.getElem?_toArray, List.getElem?_cons_succ, List.getElem?_cons_zero]) (by kernel_rfl) (by kernel_rfl) (by kernel_rfl) (by exact fun _ _ _ h => h) (Or.inl ⟨by rfl, ?hym32_4⟩) (by assumption) ?_
      case hym32_4 => (intro w0 hSw; (try dsimp only at hSw); go_simp; (try with_reducible rfl); (try assumption))
      try simp only [Act.put, List.setIfInBounds_toArray, List.set_cons_zero, List.set_cons_succ]
      refine wpAnyH_take (i := 5) (v := .bool true) (by conv => lhs; simp only [List.getElem?_toArray, List.getElem?_cons_succ, List.getElem?_cons_zero]) (by kernel_rfl) (by kernel_rfl) (by kernel_rfl) (by exact fun _ _ _ h => h) (Or.inl ⟨by rfl, ?hym32_5⟩) (by assumption) ?_
      case hym32_5 => (intro w0 hSw; (try dsimp only at hSw); go_simp; (try with_reducible rfl); (try assumption))
      try simp only [Act.put, List.setIfInBounds_toArray, List.set_cons_zero, List.set_cons_succ]
      refine wpAnyH_take (i := 6) (v := .bool true) (by conv => lhs; simp only [List.getElem?_toArray, List.getElem?_cons_succ, List.getElem?_cons_zero]) (by kernel_rfl) (by kernel_rfl) (by kernel_rfl) (by exact fun _ _ _ h => h) (Or.inl ⟨by rfl, ?hym32_6⟩) (by assumption) ?_
      case hym32_6 => (intro w0 hSw; (try dsimp only at hSw); go_simp; (try with_reducible rfl); (try assumption))
      try simp only [Act.put, List.setIfInBounds_toArray, List.set_cons_zero, List.set_cons_succ]
      refine wpAnyH_take (i := 7) (v := ?vm32_7) (by conv => lhs; simp only [List.getElem?_toArray, List.getElem?_cons_succ, List.getElem?_cons_zero]) (by kernel_rfl) (by kernel_rfl) (by kernel_rfl) (by exact fun _ _ _ h => h) (Or.inl ⟨by rfl, ?hym32_7⟩) (by assumption) ?_
      case hym32_7 => (intro w0 hSw; (try dsimp only at hSw); go_simp; (try with_reducible rfl); (try assumption))
      try simp only [Act.put, List.setIfInBounds_toArray, List.set_cons_zero, List.set_cons_succ]
      refine wpAnyH_take (i := 8) (v := ?vm32_8) (by conv => lhs; simp only [List.getElem?_toArray, List.getElem?_cons_succ, List.getElem?_cons_zero]) (by kernel_rfl) (by kernel_rfl) (by kernel_rfl) (by exact fun _ _ _ h => h) (Or.inl ⟨by rfl, ?hym32_8⟩) (by assumption) ?_
      case hym32_8 => (intro w0 hSw; (try dsimp only at hSw); go_simp; (try with_reducible rfl); (try assumption))
      try simp only [Act.put, List.setIfInBounds_toArray, List.set_cons_zero, List.set_cons_succ]
      refine wpAnyH_take (i := 9) (v := ?vm32_9) (by conv => lhs; simp only [List.getElem?_toArray, List.getElem?_cons_succ, List.getElem?_cons_zero]) (by kernel_rfl) (by kernel_rfl) (by kernel_rfl) (by exact fun _ _ _ h => h) (Or.inl ⟨by rfl, ?hym32_9⟩) (by assumption) ?_
      case hym32_9 => (intro w0 hSw; (try dsimp only at hSw); go_simp; (try with_reducible rfl); (try assumption))
      try simp only [Act.put, List.setIfInBounds_toArray, List.set_cons_zero, List.set_cons_succ]
      refine wpAnyH_take (i := 10) (v := ?vm32_10) (by conv => lhs; simp only [List.getElem?_toArray, List.getElem?_cons_succ, List.getElem?_cons_zero]) (by kernel_rfl) (by kernel_rfl) (by kernel_rfl) (by exact fun _ _ _ h => h) (Or.inl ⟨by rfl, ?hym32_10⟩) (by assumption) ?_
      case hym32_10 => (intro w0 hSw; (try dsimp only at hSw); go_simp; (try with_reducible rfl); (try assumption))
      try simp only [Act.put, List.setIfInBounds_toArray, List.set_cons_zero, List.set_cons_succ]
      refine wpAnyH_ready (rs := [11]) (by kernel_rfl) (by simp) ?_
      refine AllReadyH.cons (by conv => lhs; simp only [List.getElem?_toArray, List.getElem?_cons_succ, List.getElem?_cons_zero]) (fun K hK => ?_) AllReadyH.nil
      go_simp
      refine (rkind25 t.kind hk0 hk5 _).mono ?_
      rintro e w9 ⟨rfl, hb9⟩
      have HB9 := Lib.hid (Below.next (Below.refl WA.heap.size WA).drew hb9)
      clear hb9
      go_wp2_with fail
      refine hK.out _ _ (by exact ⟨(MX.out.keep HB9.out).cell, (MT.out.keep HB9.out).cell⟩) (fun hHeld => ?_)
      clear hK K
      try simp only [Act.put, List.setIfInBounds_toArray, List.set_cons_zero, List.set_cons_succ]
      refine wpAnyH_take (i := 12) (v := .bool true) (by conv => lhs; simp only [List.getElem?_toArray, List.getElem?_cons_succ, List.getElem?_cons_zero]) (by kernel_rfl) (by kernel_rfl) (by kernel_rfl) (by exact fun _ _ _ h => h) (Or.inl ⟨by rfl, ?hym33_12⟩) (by assumption) ?_
      case hym33_12 => (intro w0 hSw; (try dsimp only at hSw); go_simp; (try with_reducible rfl); (try assumption))
      try simp only [Act.put, List.setIfInBounds_toArray, List.set_cons_zero, List.set_cons_succ]
      refine wpAnyH_take (i := 13) (v := .bool true) (by conv => lhs; simp only [List.getElem?_toArray, List.getElem?_cons_succ, List.getElem?_cons_zero]) (by kernel_rfl) (by kernel_rfl) (by kernel_rfl) (by exact fun _ _ _ h => h) (Or.inl ⟨by rfl, ?hym33_13⟩) (by assumption) ?_
      case hym33_13 => (intro w0 hSw; (try dsimp only at hSw); go_simp; (try with_reducible rfl); (try assumption))
      try simp only [Act.put, List.setIfInBounds_toArray, List.set_cons_zero, List.set_cons_succ]
      refine wpAnyH_done (by kernel_rfl) ?_ _
      have HB8 := Lib.hid (HWA.out.trans (HB9.out.mono HWA.out.size))
      go_wp2_with fail
      go_ret
      unfold RCheckPost
      rw [chk_eq, if_pos HF.out]
      refine ⟨_, 1, rfl, flaw_one 1 (HL0.out.mono (fun _ h _ => h) (fun b o _ hlt => HB8.out.cell hlt)) (Nat.le_trans HB0.out.size HB8.out.size), (HB0.out.trans (HB8.out.mono HB0.out.size)).alloc (Nat.le_trans HB0.out.size HB8.out.size) _⟩
  case rest =>
  obtain ⟨HTF, HX0⟩ := hcut
  refine hK1.out _ _ ?_
  clear hK1 K1
  have hbase : RBase w W0 Sl a l n5 s sla slc sma smc n6 t la lc ma mc := ⟨HB0.out, HL0.out, HS0.out, HT0.out, hps, hpt⟩
  refine wp_seq_cut (fun K2 hK2 => ?_)
  refine rc_size hbase HX0 (fun w2 _ _ _ _ _ _ _ _ _ _ _ HX1 => ?_)
  refine hK2.out _ _ ?_
  clear hK2 K2
  refine wp_seq_cut (fun K2 hK2 => ?_)
  refine rc_size2 hbase HX1 (fun w3 _ _ _ _ _ HX2 => ?_)
  refine hK2.out _ _ ?_
  clear hK2 K2
  have HC0 := Lib.hid (show RC w W0 w3 Sl none 0 ([] : List FlawT) from ⟨OwnE.nil, Gro.of HX2.out⟩)
  clear HX0 HX1 HX2
  refine wp_seq_cut (fun K2 hK2 => ?_)
  refine rc_least (A := none) (c := 0) (N := []) hbase HC0 (by simp) (fun A1 c1 w4 _ _ _ _ _ _ _ _ _ _ _ _ _ _ _ _ _ _ _ _ _ _ _ _ HC1 => ?_)
  refine hK2.out _ _ ?_
  clear hK2 K2
  rw [List.nil_append] at HC1 ⊢
  obtain ⟨N1, hN1⟩ : ∃ z, z = leastF s t l := ⟨_, rfl⟩
  rw [← hN1] at HC1 ⊢
  have HN1 := Lib.hid hN1
  have HZ1 := Lib.hid (show N1.length ≤ 1 from by rw [hN1]; exact leastF_len s t l)
  clear hN1
  refine wp_seq_cut (fun K2 hK2 => ?_)
  refine rc_most hbase HC1 (by have := HZ1.out; omega) (fun A2 c2 w5 _ _ _ _ _ _ _ _ _ _ _ _ _ _ _ _ _ _ _ _ _ _ _ _ HC2 => ?_)
  refine hK2.out _ _ ?_
  clear hK2 K2
  obtain ⟨N2, hN2⟩ : ∃ z, z = N1 ++ mostF s t l := ⟨_, rfl⟩
  rw [← hN2] at HC2 ⊢
  have HN2 := Lib.hid hN2
  clear hN2
  have HZ2 := Lib.hid (show N2.length ≤ 2 from by have h1 := HZ1.out; have h2 := mostF_len s t l; rw [HN2.out, List.length_append]; omega)
  refine wp_seq_cut (fun K2 hK2 => ?_)
  refine rc_one hbase HC2 (by have := HZ2.out; omega) HFS.out (fun A3 c3 w6 _ _ _ _ _ _ _ _ _ _ _ _ _ _ _ _ _ _ _ _ _ _ _ _ _ _ _ _ _ _ _ _ _ _ HC3 => ?_)
  refine hK2.out _ _ ?_
  clear hK2 K2
  obtain ⟨N3, hN3⟩ : ∃ z, z = N2 ++ oneF s t l := ⟨_, rfl⟩
  rw [← hN3] at HC3 ⊢
  have HN3 := Lib.hid hN3
  clear hN3
  have HZ3 := Lib.hid (show N3.length ≤ 3 from by have h1 := HZ2.out; have h2 := oneF_len s t l; rw [HN3.out, List.length_append]; omega)
  obtain ⟨LL, hLL⟩ : ∃ z, z = T.chkL t.list (getT s itemsW) 0 l := ⟨_, rfl⟩
  obtain ⟨MM, hMM⟩ : ∃ z, z = (if t.kind = 5 then needF s t l ++ T.chkM t.map ((getT s keysW).getD T.zero) ((getT s closedW).getD T.zero).bool l else []) := ⟨_, rfl⟩
  have HALL := Lib.hid (show t.chk s l = N3 ++ LL ++ MM from by rw [chk_eq, if_neg (by rw [HTF.out]; decide), hLL, hMM, HN3.out, HN2.out, HN1.out])
  have HTOT := Lib.hid (show N3.length + LL.length + MM.length ≤ 999999000 from by have h1 := HFN.out; rw [HALL.out] at h1; simp only [List.length_append] at h1; omega)
  have HLLE := Lib.hid hLL; have HMME := Lib.hid hMM
  clear hLL hMM
  refine wp_seq_cut (fun K2 hK2 => ?_)
  refine rc_items hbase HC3 HFS.out HFT.out HLI.out HLN.out (by have h := HTOT.out; rw [← HLLE.out]; omega) (fun A4 c4 w7 _ _ _ _ _ _ _ _ _ _ _ _ _ _ _ _ _ _ _ _ _ _ _ _ _ _ _ _ _ HC4 => ?_)
  refine hK2.out _ _ ?_
  clear hK2 K2
  rw [← HLLE.out] at HC4 ⊢
  obtain ⟨N4, hN4⟩ : ∃ z, z = N3 ++ LL := ⟨_, rfl⟩
  rw [← hN4] at HC4 ⊢
  have HN4 := Lib.hid hN4
  clear hN4
  -- a map's
  refine wp_seq_cut (fun K2 hK2 => ?_)
  have HT4 := Lib.hid (HT0.out.gro HC4.out.gro (fun e => by cases e) (fun _ e => by cases e))
  have k2 := HT4.out.blk.cell; have l2 := HT4.out.blk.lt
  by_cases h5 : ¬ t.kind = 5
  · have g5 : (t.kind != 5) = true := by simpa using h5
    have HMN := Lib.hid (show t.chk s l = N4 from by rw [HALL.out, HMME.out, if_neg h5, HN4.out, List.append_nil])
    clear h5
    go_wp2_with fail
    go_ret
    unfold RCheckPost
    rw [HMN.out]
    exact ⟨A4, c4, rfl, HC4.out.fl, HB0.out.trans (HC4.out.base.mono HB0.out.size)⟩
  have h5 := Decidable.not_not.1 h5
  have g5 : (t.kind != 5) = false := by rw [h5]; rfl
  have HM5 := Lib.hid (show MM = needF s t l ++ T.chkM t.map ((getT s keysW).getD T.zero) ((getT s closedW).getD T.zero).bool l from by rw [HMME.out, if_pos h5])
  clear h5
  go_wp2_with fail
  refine hK2.out _ _ ?_
  clear hK2 K2 k2 l2 g5 HMME
  refine wp_seq_cut (fun K2 hK2 => ?_)
  refine rc_need0 hbase HC4 (fun nx nt qa qc qm qn w8 _ _ _ _ _ _ hnt HBn HNB HNL => ?_)
  refine hK2.out _ _ ?_
  clear hK2 K2
  have HC5 := Lib.hid (HC4.out.keep HBn.out)
  have HFn := Lib.hid (show FineT nt from by rw [hnt]; exact HFS.out.getD reqW)
  have HNF := Lib.hid (show needF s t l = nt.list.flatMap (needP t l) from by unfold needF; rw [← hnt])
  have HRN := Lib.hid (HC4.out.fresh HNL)
  clear hnt HNL
  obtain ⟨KK, hKK⟩ : ∃ z, z = T.chkM t.map ((getT s keysW).getD T.zero) ((getT s closedW).getD T.zero).bool l := ⟨_, rfl⟩
  have HKK := Lib.hid hKK; have HMK := Lib.hid (show MM = needF s t l ++ KK from by rw [HM5.out, hKK])
  have HT5 := Lib.hid (show N4.length + (nt.list.flatMap (needP t l)).length + KK.length ≤ 999999000 from by have h1 := HTOT.out; rw [HM5.out, HNF.out, ← hKK, List.length_append] at h1; rw [HN4.out, List.length_append]; omega)
  clear hKK
  refine wp_seq_cut (fun K2 hK2 => ?_)
  refine rc_need hbase HC5 HNB HRN HFn.out hln (by have h := HT5.out; omega) (fun A5 c5 w9 _ _ _ _ _ _ _ _ _ _ _ _ _ _ _ _ _ _ _ _ _ _ _ _ _ _ _ _ _ _ _ _ _ _ _ HC6 => ?_)
  refine hK2.out _ _ ?_
  clear hK2 K2
  obtain ⟨N5, hN5⟩ : ∃ z, z = N4 ++ nt.list.flatMap (needP t l) := ⟨_, rfl⟩
  rw [← hN5] at HC6 ⊢
  have HN5 := Lib.hid hN5
  clear hN5
  refine wp_seq_cut (fun K2 hK2 => ?_)
  refine rc_keys0 hbase HC6 (fun nk kt ka kc km kn w10 _ _ _ _ _ _ hkt HBk HKB HKL => ?_)
  refine hK2.out _ _ ?_
  clear hK2 K2
  have HC7 := Lib.hid (HC6.out.keep HBk.out)
  have HFk := Lib.hid (show FineT kt from by rw [hkt]; exact HFS.out.getD keysW)
  have HRK := Lib.hid (HC6.out.fresh HKL)
  rw [← hkt] at HKK
  clear hkt HKL
  refine wp_seq_cut (fun K2 hK2 => ?_)
  refine rc_closed0 hbase HC7 (fun nc ct ca cc cm cn w11 _ _ _ _ _ _ hct HBc HCB HCL => ?_)
  refine hK2.out _ _ ?_
  clear hK2 K2
  have HC8 := Lib.hid (HC7.out.keep HBc.out)
  have HRC := Lib.hid (HC7.out.fresh HCL)
  have HKB2 := Lib.hid (HKB.out.keep HBc.out)
  rw [← hct] at HKK
  clear hct HCL
  refine wp_seq_cut (fun K2 hK2 => ?_)
  refine rc_keys hbase HC8 HKB2 HCB HRK HRC HFk.out HFT.out HMI.out HLN.out (by have h := HT5.out; rw [HKK.out] at h; rw [HN5.out, List.length_append]; omega) (fun A6 c6 w12 _ _ _ _ _ _ _ _ _ _ _ _ _ _ _ _ _ _ _ _ _ _ _ _ _ _ _ _ _ _ _ _ _ _ _ _ _ _ _ _ _ _ _ _ _ _ _ _ _ _ _ _ _ _ HC9 => ?_)
  refine hK2.out _ _ ?_
  clear hK2 K2
  have HMN := Lib.hid (show t.chk s l = N5 ++ T.chkM t.map kt ct.bool l from by rw [HALL.out, HMK.out, HN5.out, HN4.out, HNF.out, HKK.out]; simp only [List.append_assoc])
  obtain ⟨N6, hN6⟩ : ∃ z, z = N5 ++ T.chkM t.map kt ct.bool l := ⟨_, rfl⟩
  rw [← hN6] at HC9 HMN ⊢
  clear hN6
  go_wp2_with fail
  go_ret
  unfold RCheckPost
  rw [HMN.out]
  exact ⟨A6, c6, rfl, HC9.out.fl, HB0.out.trans (HC9.out.base.mono HB0.out.size)⟩
theorem rcheckR (t : T) : RCheckOk t := by
  induction t using T.ind' with
  | h t ihl ihm => exact rcheck_step t ihl ihm
end Go.Proofs.YtgbbojnigicnoaaDoor
