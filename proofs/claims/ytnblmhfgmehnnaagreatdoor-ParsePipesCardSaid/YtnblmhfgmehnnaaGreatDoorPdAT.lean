/- Several texts as one. -/
import Derived.Test.YtnblmhfgmehnnaaGreatDoorPdAS
import Derived.Test.YtnblmhfgmehnnaaGreatDoorPdAC
import Derived.Test.YtnblmhfgmehnnaaGreatDoorPdAG
import Derived.Deep.RegionHeld3
import Derived.Deep.DrawnRows
import Derived.Test.YtnblmhfgmehnnaaGreatDoorRows
import Derived.Test.YtnblmhfgmehnnaaGreatDoorPdAA
import Derived.Deep.DeepCutAuto
import Derived.BigQuiet
import Derived.Deep.QuietTactic
import Derived.Test.YtnblmhfgmehnnaaGreatDoorShv
/- The document's writer of expressions: pipes. -/
namespace Go.Proofs.YtnblmhfgmehnnaaGreatDoor
open Go.RowKit Go.Lib
attribute [local go_sem ↓] Go.wp_at_zero Go.wp_at_succ

/-- How things stand ahead of a call's name: the arguments that are still to come. -/
structure At8 (gs : Nat) (A : Option Addr) (c : Nat) (L : List UInt8) (n d : Nat) (x : Ex) (F : List UInt8 × Nat) (W1 wr : World) (m : Nat) (sv : ByteArray) (a1 : Nat) : Prop where
  le : m ≤ x.args.length
  text : sv.data.toList ++ (x.name.data.toList ++ (argsW L (pipW L n) (x.args.take m) a1).1) = F.1
  at_ : (argsW L (pipW L n) (x.args.take m) a1).2 = F.2
  sum : a1 + 6 * ((x.args.take m).map (wtX (d - 1))).sum + 2 ≤ 1000000000
  st : StAt wr gs A c L a1
  bar : Bar W1 wr gs
section
variable {gs : Nat} {A : Option Addr} {c : Nat} {L : List UInt8}
/-- An operand that is no call. -/
theorem op_low {n d : Nat} {x : Ex} {a : Nat} {W : World} {S : Nat → Prop} {cs : List Value} (hR : RightX d x) (hk3 : x.kind ≠ 3) (h : StAt W gs A c L a) (hx : RepX W S cs x) (hz2 : 40 * wtX d x ≤ 1000000) : Calls Tryz.prog 33 #[.pointer (some ⟨gs, 0, none⟩), .agg (List.toArray cs)] W (WrPost gs A c L (opW L (pipW L n) x a) W) := by
  have ho := hR.own
  have hst := wtX_step hR
  have hwo : wtO x ≤ 25000 := by omega
  rcases ho.kind with hk | hk | hk | hk
  · have e : opW L (pipW L n) x a = (litW x.val, a) := by unfold opW; rw [if_pos hk]
    rw [e]
    exact op_r0 ho hk h hx hwo
  · have e : opW L (pipW L n) x a = (if x.steps = [] then [46] else stepsW x.steps, a) := by unfold opW; rw [if_neg (by omega), if_pos hk]
    rw [e]
    exact op_r1 hk h hx hwo
  · have e : opW L (pipW L n) x a = (36 :: (x.name.data.toList ++ stepsW x.steps), a) := by unfold opW; rw [if_neg (by omega), if_neg (by omega), if_pos hk]
    rw [e]
    exact op_r2 hk h hx hwo
  · exact absurd hk hk3
theorem sum_mem {α : Type} (f : α → Nat) {y : α} : ∀ {l : List α}, y ∈ l → f y ≤ (l.map f).sum
  | [], h => by cases h
  | a :: l, h => by
    rw [List.map_cons, List.sum_cons]
    rcases List.mem_cons.1 h with rfl | h
    · omega
    · have := sum_mem f h; omega
theorem drop_cons {α : Type} {l : List α} {q : Nat} (h : q < l.length) : l.drop q = l[q] :: l.drop (q + 1) := List.drop_eq_getElem_cons h
set_option maxRecDepth 100000 in
set_option maxHeartbeats 16000000 in
theorem pi_low {n d : Nat} {x : Ex} {a : Nat} {W : World} {S : Nat → Prop} {cs : List Value} (hR : RightX d x) (hk3 : x.kind ≠ 3) (h : StAt W gs A c L a) (hx : RepX W S cs x) (hz2 : 40 * wtX d x ≤ 1000000) : Calls Tryz.prog 18 #[.pointer (some ⟨gs, 0, none⟩), .agg (List.toArray cs)] W (WrPost gs A c L (opW L (pipW L n) x a) W) := by
  obtain ⟨la, lc, ma, mc, sa, sc, aa, ac, rfl, hp⟩ := hx.inv
  have hgs := h.blk.lt
  have hba := Below.new W (.cells #[.int .i64 x.kind, .int .i64 x.val.kind, .bool x.val.bool, .int .i64 x.val.int, .string x.val.str, .slice la x.val.list.length lc, .slice ma x.val.map.length mc, .string x.name, .slice sa x.steps.length sc, .slice aa x.args.length ac] 45)
  have h0 := Blk.new W 45 #[.int .i64 x.kind, .int .i64 x.val.kind, .bool x.val.bool, .int .i64 x.val.int, .string x.val.str, .slice la x.val.list.length lc, .slice ma x.val.map.length mc, .string x.name, .slice sa x.steps.length sc, .slice aa x.args.length ac]
  have HB := Lib.hid (Bar.of (gc := gs) hba); have H0 := Lib.hid h0
  have CO := Lib.hid (op_low (n := n) hR hk3 (h.keep hba) (hx.keep hba) hz2)
  have g3 : (x.kind != 3) = true := bne_iff_ne.2 hk3
  obtain ⟨W1, e1⟩ : ∃ z, z = W.alloc (.cells #[.int .i64 x.kind, .int .i64 x.val.kind, .bool x.val.bool, .int .i64 x.val.int, .string x.val.str, .slice la x.val.list.length lc, .slice ma x.val.map.length mc, .string x.name, .slice sa x.steps.length sc, .slice aa x.args.length ac] 45) := ⟨_, rfl⟩
  obtain ⟨n3, e3⟩ : ∃ z, z = W.heap.size := ⟨_, rfl⟩
  rw [← e1] at CO HB H0
  rw [← e3] at H0
  have E1 := Lib.hid e1; have E3 := Lib.hid e3
  clear h hx hp hba h0 e1 e3 hk3
  have k0 := H0.out.cell; have f0 := H0.out.frozen; have l0 := H0.out.lt
  go_enter Tryz.func18, Tryz.ntmps18
  go_upto_region 1 with fail
  rw [← E1.out, ← E3.out]
  go_wp2_with fail
  refine CO.out.mono ?_
  rintro e w2 ⟨rfl, hs2, hbar2⟩
  have HS2 := Lib.hid hs2; have HB2 := Lib.hid (HB.out.trans hbar2)
  clear hs2 hbar2 k0 f0 l0
  go_wp2_with fail
  go_ret
  exact ⟨rfl, HS2.out, HB2.out⟩
set_option maxRecDepth 100000 in
set_option maxHeartbeats 16000000 in
/-- A call, plain: its name and all its arguments. -/
theorem pi_call {n d : Nat} {x : Ex} {a : Nat} {W : World} {S : Nat → Prop} {cs : List Value} (hO : OpR gs A c L n) (hP : PiR gs A c L n) (hR : RightX d x) (hn : d + 1 ≤ n + 1) (hk : x.kind = 3) (h : StAt W gs A c L a) (hx : RepX W S cs x) (hS : ∀ b, S b → b ≠ gs) (hz : a + 6 * wtX d x ≤ 1000000000) (hz2 : 40 * wtX d x ≤ 1000000) : Calls Tryz.prog 18 #[.pointer (some ⟨gs, 0, none⟩), .agg (List.toArray cs)] W (WrPost gs A c L (pipW L (n + 1) x a) W) := by
  have hlen := (pip_len L (n + 1) d x a hR hn).1
  have hst := wtX_step hR
  have hargs := hR.args
  obtain ⟨la, lc, ma, mc, sa, sc, aa, ac, rfl, hp⟩ := hx.inv
  have hgs := h.blk.lt
  have hba := Below.new W (.cells #[.int .i64 x.kind, .int .i64 x.val.kind, .bool x.val.bool, .int .i64 x.val.int, .string x.val.str, .slice la x.val.list.length lc, .slice ma x.val.map.length mc, .string x.name, .slice sa x.steps.length sc, .slice aa x.args.length ac] 45)
  have h0 := Blk.new W 45 #[.int .i64 x.kind, .int .i64 x.val.kind, .bool x.val.bool, .int .i64 x.val.int, .string x.val.str, .slice la x.val.list.length lc, .slice ma x.val.map.length mc, .string x.name, .slice sa x.steps.length sc, .slice aa x.args.length ac]
  have HS := Lib.hid (h.keep hba); have HB := Lib.hid (Bar.of (gc := gs) hba); have H0 := Lib.hid h0; have HXA := Lib.hid (show RepXs (W.alloc (.cells #[.int .i64 x.kind, .int .i64 x.val.kind, .bool x.val.bool, .int .i64 x.val.int, .string x.val.str, .slice la x.val.list.length lc, .slice ma x.val.map.length mc, .string x.name, .slice sa x.steps.length sc, .slice aa x.args.length ac] 45)) S aa x.args from hp.args.keep hba)
  have g3 : (x.kind != 3) = false := by rw [hk]; rfl
  have hac := hp.aroom.2.2
  have hpw : pipW L (n + 1) x a = (match x.args.getLast? with
      | none => callW L (pipW L n) x [] [] a
      | some y =>
        if (pickW L a 3).1 = 1 then
          callW L (pipW L n) x x.args.dropLast ((pipW L n y (pickW L a 3).2).1 ++ ((gapW L (pipW L n y (pickW L a 3).2).2).1 ++ (124 :: (gapW L (gapW L (pipW L n y (pickW L a 3).2).2).2).1))) (gapW L (gapW L (pipW L n y (pickW L a 3).2).2).2).2
        else callW L (pipW L n) x x.args [] (pickW L a 3).2) := by rw [pipW, if_neg (fun h => h hk)]; rfl
  obtain ⟨W1, e1⟩ : ∃ z, z = W.alloc (.cells #[.int .i64 x.kind, .int .i64 x.val.kind, .bool x.val.bool, .int .i64 x.val.int, .string x.val.str, .slice la x.val.list.length lc, .slice ma x.val.map.length mc, .string x.name, .slice sa x.steps.length sc, .slice aa x.args.length ac] 45) := ⟨_, rfl⟩
  obtain ⟨n3, e3⟩ : ∃ z, z = W.heap.size := ⟨_, rfl⟩
  rw [← e1] at HS HB H0 HXA
  rw [← e3] at H0
  have hn3 : n3 ≠ gs := by omega
  have E1 := Lib.hid e1; have E3 := Lib.hid e3
  obtain ⟨F, hF⟩ : ∃ z, z = pipW L (n + 1) x a := ⟨_, rfl⟩
  rw [← hF] at hlen hpw ⊢
  have HPW := Lib.hid hpw; have HAR := Lib.hid hargs; have HST := Lib.hid hst; have HOO := Lib.hid hO; have HPP := Lib.hid hP
  have hwo : 1 ≤ wtO x := by unfold wtO; omega
  have hFl : F.1.length ≤ 1000000 := by omega
  have hdn : 0 < d → d - 1 + 1 ≤ n := by omega
  clear h hx hp hba h0 e1 e3 hk hF hpw hargs hlen hst hO hP
  have hrest : ∀ (m : Nat) (sv : ByteArray) (a1 : Nat) (wr : World), m ≤ x.args.length → sv.data.toList ++ (x.name.data.toList ++ (argsW L (pipW L n) (x.args.take m) a1).1) = F.1 → (argsW L (pipW L n) (x.args.take m) a1).2 = F.2 → a1 + 6 * ((x.args.take m).map (wtX (d - 1))).sum + 2 ≤ 1000000000 → StAt wr gs A c L a1 → Bar W1 wr gs → At8 gs A c L n d x F W1 wr m sv a1 := fun m sv a1 wr h1 h2 h3 h4 h5 h6 => ⟨h1, h2, h3, h4, h5, h6⟩
  have HREST := Lib.hid hrest
  clear hrest
  cases hl : x.args.getLast? with
  | none =>
    have hnil : x.args = [] := by simpa using hl
    have gl : ((x.args.length : Int)) = 0 := by rw [hnil]; rfl
    have hF := HPW.out
    have hw := HST.out
    rw [hl] at hF
    simp only at hF
    have HAT := Lib.hid (HREST.out x.args.length ⟨#[]⟩ a W1 (Nat.le_refl _) (by rw [hF, hnil]; rfl) (by rw [hF, hnil]; rfl) (by rw [hnil]; simp; omega) HS.out (Bar.refl _ _))
    have g5 : decide (0 < x.args.length) = false := decide_eq_false (by omega)
    clear hl hnil gl hF HREST HPW hw
    have k0 := H0.out.cell; have f0 := H0.out.frozen; have l0 := H0.out.lt
    go_enter Tryz.func18, Tryz.ntmps18
    go_upto_region 1 with fail
    rw [← E1.out, ← E3.out]
    go_upto_region 8 with fail
    have k0 := H0.out.cell; have f0 := H0.out.frozen; have l0 := H0.out.lt
    have hz8 : ByteArray.size ⟨#[]⟩ + x.name.size ≤ 1000000 := by have h9 := congrArg List.length HAT.out.text; rw [List.length_append, List.length_append, ← size_list, ← size_list] at h9; omega
    have hz9 : ByteArray.size ⟨#[]⟩ ≤ 1000000 := by omega
    have hML := HAT.out.le
    have HI0 := Lib.hid (show ((⟨#[]⟩ ++ x.name).data.toList ++ (argsW L (pipW L n) ((x.args.take x.args.length).drop 0) a).1 = F.1 ∧ (argsW L (pipW L n) ((x.args.take x.args.length).drop 0) a).2 = F.2) from ⟨by rw [List.drop_zero, ← HAT.out.text]; simp, by rw [List.drop_zero]; exact HAT.out.at_⟩)
    have HI1 := Lib.hid (show a + 6 * (((x.args.take x.args.length).drop 0).map (wtX (d - 1))).sum + 2 ≤ 1000000000 from by rw [List.drop_zero]; exact HAT.out.sum)
    have HI2 := Lib.hid HAT.out.st; have HI3 := Lib.hid HAT.out.bar
    clear HAT
    go_wp2_with fail
    go_loopw [6, 7] (fun x6 x7 wr => ∃ (q : Nat) (tv : ByteArray) (aq : Nat), q ≤ x.args.length ∧ x7 = .int .i64 q ∧ x6 = .string tv ∧ Hid (tv.data.toList ++ (argsW L (pipW L n) ((x.args.take x.args.length).drop q) aq).1 = F.1 ∧ (argsW L (pipW L n) ((x.args.take x.args.length).drop q) aq).2 = F.2) ∧ Hid (aq + 6 * (((x.args.take x.args.length).drop q).map (wtX (d - 1))).sum + 2 ≤ 1000000000) ∧ Hid (StAt wr gs A c L aq) ∧ Hid (Bar W1 wr gs)) (fun _ x7 _ => x.args.length - (Lib.intOf x7).toNat)
    case atStart => exact ⟨0, _, a, Nat.zero_le _, rfl, rfl, HI0, HI1, HI2, HI3⟩
    case round =>
      obtain ⟨q, tv, aq, hq, rfl, rfl, HQ, HQS, HQT, HQB⟩ := hrel
      clear k0 f0 l0 HI0 HI1 HI2 HI3
      by_cases hlt : q < x.args.length
      · have hqx : q < x.args.length := by omega
        obtain ⟨b2, bo2, csq, eaa, hSb2, hcy2, hxy2⟩ := HXA.out q hqx
        cases eaa
        obtain ⟨yq, hy⟩ : ∃ z, z = x.args[q] := ⟨_, rfl⟩
        rw [← hy] at hxy2
        have hmem : yq ∈ x.args := by rw [hy]; exact List.getElem_mem _
        have hRy2 := HAR.out yq hmem
        have hdp2 : 0 < d := hR.deep.resolve_left (fun e => by rw [e] at hmem; cases hmem)
        have hdr : (x.args.take x.args.length).drop q = yq :: (x.args.take x.args.length).drop (q + 1) := by rw [drop_cons (by rw [List.length_take]; omega), hy, List.getElem_take]
        have hsm := HQS.out
        have hq2 := HQ.out
        rw [hdr, argsW] at hq2
        rw [hdr] at hsm
        simp only [List.map_cons, List.sum_cons] at hsm
        simp only at hq2
        have hwy := sum_mem (wtX (d - 1)) hmem
        have hwx := HST.out
        have hgl3 := gap_len L aq
        have CG0 := tgap gs A c L aq wr.drew (HQT.out.keep (Below.drew (Below.refl _ _))) (by omega)
        obtain ⟨⟨g, a2⟩, hg⟩ : ∃ z, z = gapW L aq := ⟨_, rfl⟩
        rw [← hg] at hq2 hgl3 CG0
        simp only at hq2 hgl3 CG0
        have hol := op_len (pip_len L n) (a := a2) hRy2 (hdn hdp2)
        obtain ⟨laq, lcq, maq, mcq, saq, scq, aaq, acq, rfl, -⟩ := hxy2.inv
        have hA9 : a2 + 6 * wtX (d - 1) yq < 1000000000 := by omega
        have hB9 : 40 * wtX (d - 1) yq ≤ 1000000 := by omega
        have CO := fun (w2 : World) (hs2 : StAt w2 gs A c L a2) (hx2 : RepX w2 S [.int .i64 yq.kind, .int .i64 yq.val.kind, .bool yq.val.bool, .int .i64 yq.val.int, .string yq.val.str, .slice laq yq.val.list.length lcq, .slice maq yq.val.map.length mcq, .string yq.name, .slice saq yq.steps.length scq, .slice aaq yq.args.length acq] yq) => HOO.out (d - 1) yq a2 w2 S _ hRy2 (hdn hdp2) hs2 hx2 hS hA9 hB9
        obtain ⟨⟨o, a3⟩, ho⟩ : ∃ z, z = opW L (pipW L n) yq a2 := ⟨_, rfl⟩
        rw [← ho] at CO hq2 hol
        simp only at CO hq2 hol
        obtain ⟨sg, hsg⟩ : ∃ z, z = bs g := ⟨_, rfl⟩
        obtain ⟨so, hso⟩ : ∃ z, z = bs o := ⟨_, rfl⟩
        rw [← hsg] at CG0
        have CGH := Lib.hid CG0
        have COH := Lib.hid (fun (w2 : World) (h1 : StAt w2 gs A c L a2) (h2 : RepX w2 S [.int .i64 yq.kind, .int .i64 yq.val.kind, .bool yq.val.bool, .int .i64 yq.val.int, .string yq.val.str, .slice laq yq.val.list.length lcq, .slice maq yq.val.map.length mcq, .string yq.name, .slice saq yq.steps.length scq, .slice aaq yq.args.length acq] yq) => show Calls Tryz.prog 33 #[.pointer (some ⟨gs, 0, none⟩), .agg #[.int .i64 yq.kind, .int .i64 yq.val.kind, .bool yq.val.bool, .int .i64 yq.val.int, .string yq.val.str, .slice laq yq.val.list.length lcq, .slice maq yq.val.map.length mcq, .string yq.name, .slice saq yq.steps.length scq, .slice aaq yq.args.length acq]] w2 (fun e w' => e = .returned (.string so) ∧ StAt w' gs A c L a3 ∧ Bar w2 w' gs) from by rw [hso]; exact CO w2 h1 h2)
        have HN := Lib.hid (show (tv ++ sg ++ so).data.toList ++ (argsW L (pipW L n) ((x.args.take x.args.length).drop (q + 1)) a3).1 = F.1 ∧ (argsW L (pipW L n) ((x.args.take x.args.length).drop (q + 1)) a3).2 = F.2 from ⟨by rw [← hq2.1, hsg, hso]; simp, hq2.2⟩)
        have HNS := Lib.hid (show a3 + 6 * (((x.args.take x.args.length).drop (q + 1)).map (wtX (d - 1))).sum + 2 ≤ 1000000000 from by omega)
        have hzz : tv.size + sg.size + so.size ≤ 1000000 := by have h9 := congrArg List.length hq2.1; simp only [List.length_append] at h9; have e1 := size_list tv; (have e2 : sg.size = g.length := by rw [hsg, bs_size]); (have e3 : so.size = o.length := by rw [hso, bs_size]); omega
        have hz3 : tv.size ≤ 1000000 := by omega
        have hz4 : tv.size + sg.size ≤ 1000000 := by omega
        have hnot1 : ¬ 9223372036854775807 < tv.size + sg.size := by omega
        have hnot2 : ¬ 9223372036854775807 < tv.size + sg.size + so.size := by omega
        have hbl2 : b2 < W1.heap.size := hcy2.lt
        have hcw2 : cellsAt wr b2 (bo2 + q * 10) [.int .i64 yq.kind, .int .i64 yq.val.kind, .bool yq.val.bool, .int .i64 yq.val.int, .string yq.val.str, .slice laq yq.val.list.length lcq, .slice maq yq.val.map.length mcq, .string yq.name, .slice saq yq.steps.length scq, .slice aaq yq.args.length acq] := hcy2.keep fun i => HQB.out.cell hbl2 (hS b2 hSb2)
        have hlwr : b2 < wr.heap.size := Nat.lt_of_lt_of_le hbl2 HQB.out.size
        have hneb : b2 ≠ gs := hS b2 hSb2
        have hn3r : n3 < wr.heap.size := Nat.lt_of_lt_of_le H0.out.lt HQB.out.size
        have HX0 := Lib.hid (HQB.out.blk H0.out hn3)
        have HSS := Lib.hid (show ∀ wx, Bar wr wx gs → (fun w' => (∀ i, w'.cell? ⟨n3, i, none⟩ = (#[.int .i64 x.kind, .int .i64 x.val.kind, .bool x.val.bool, .int .i64 x.val.int, .string x.val.str, .slice la x.val.list.length lc, .slice ma x.val.map.length mc, .string x.name, .slice sa x.steps.length sc, .slice (some ⟨b2, bo2, none⟩) x.args.length ac] : Array Value)[i]?) ∧ w'.cell? ⟨b2, bo2 + q * 10, none⟩ = some (.int .i64 yq.kind) ∧ w'.cell? ⟨b2, bo2 + q * 10 + 1, none⟩ = some (.int .i64 yq.val.kind) ∧ w'.cell? ⟨b2, bo2 + q * 10 + 2, none⟩ = some (.bool yq.val.bool) ∧ w'.cell? ⟨b2, bo2 + q * 10 + 3, none⟩ = some (.int .i64 yq.val.int) ∧ w'.cell? ⟨b2, bo2 + q * 10 + 4, none⟩ = some (.string yq.val.str) ∧ w'.cell? ⟨b2, bo2 + q * 10 + 5, none⟩ = some (.slice laq yq.val.list.length lcq) ∧ w'.cell? ⟨b2, bo2 + q * 10 + 6, none⟩ = some (.slice maq yq.val.map.length mcq) ∧ w'.cell? ⟨b2, bo2 + q * 10 + 7, none⟩ = some (.string yq.name) ∧ w'.cell? ⟨b2, bo2 + q * 10 + 8, none⟩ = some (.slice saq yq.steps.length scq) ∧ w'.cell? ⟨b2, bo2 + q * 10 + 9, none⟩ = some (.slice aaq yq.args.length acq)) wx from fun wx hx => ⟨(hx.blk HX0.out hn3).cell, (hx.cell (o := bo2 + q * 10) hlwr hneb).trans (hcw2 0 _ rfl), (hx.cell (o := bo2 + q * 10 + 1) hlwr hneb).trans (hcw2 1 _ rfl), (hx.cell (o := bo2 + q * 10 + 2) hlwr hneb).trans (hcw2 2 _ rfl), (hx.cell (o := bo2 + q * 10 + 3) hlwr hneb).trans (hcw2 3 _ rfl), (hx.cell (o := bo2 + q * 10 + 4) hlwr hneb).trans (hcw2 4 _ rfl), (hx.cell (o := bo2 + q * 10 + 5) hlwr hneb).trans (hcw2 5 _ rfl), (hx.cell (o := bo2 + q * 10 + 6) hlwr hneb).trans (hcw2 6 _ rfl), (hx.cell (o := bo2 + q * 10 + 7) hlwr hneb).trans (hcw2 7 _ rfl), (hx.cell (o := bo2 + q * 10 + 8) hlwr hneb).trans (hcw2 8 _ rfl), (hx.cell (o := bo2 + q * 10 + 9) hlwr hneb).trans (hcw2 9 _ rfl)⟩)
        have HXY3 := Lib.hid (hxy2.bar HQB.out hS)
        have hg0 : (0 : Int) ≤ (q : Int) := by omega
        have hg1 : (q : Int) < (x.args.length : Int) := by omega
        have hg2 : (q : Int) < ((x.args.length : Nat) : Int) := by omega
        have hwk2 : IntKind.i64.wrap ((q : Int) + 1) = (q : Int) + 1 := wrap_fit (by omega) (by omega)
        clear hcy2 hxy2 hy hmem hdr hsm hq2 hwy hwx hg ho hsg hso CO CG0 hcw2 HQ HQS
        go_upto_region 12 with fail
        refine wp_region_tail (S := (fun w' => (∀ i, w'.cell? ⟨n3, i, none⟩ = (#[.int .i64 x.kind, .int .i64 x.val.kind, .bool x.val.bool, .int .i64 x.val.int, .string x.val.str, .slice la x.val.list.length lc, .slice ma x.val.map.length mc, .string x.name, .slice sa x.steps.length sc, .slice (some ⟨b2, bo2, none⟩) x.args.length ac] : Array Value)[i]?) ∧ w'.cell? ⟨b2, bo2 + q * 10, none⟩ = some (.int .i64 yq.kind) ∧ w'.cell? ⟨b2, bo2 + q * 10 + 1, none⟩ = some (.int .i64 yq.val.kind) ∧ w'.cell? ⟨b2, bo2 + q * 10 + 2, none⟩ = some (.bool yq.val.bool) ∧ w'.cell? ⟨b2, bo2 + q * 10 + 3, none⟩ = some (.int .i64 yq.val.int) ∧ w'.cell? ⟨b2, bo2 + q * 10 + 4, none⟩ = some (.string yq.val.str) ∧ w'.cell? ⟨b2, bo2 + q * 10 + 5, none⟩ = some (.slice laq yq.val.list.length lcq) ∧ w'.cell? ⟨b2, bo2 + q * 10 + 6, none⟩ = some (.slice maq yq.val.map.length mcq) ∧ w'.cell? ⟨b2, bo2 + q * 10 + 7, none⟩ = some (.string yq.name) ∧ w'.cell? ⟨b2, bo2 + q * 10 + 8, none⟩ = some (.slice saq yq.steps.length scq) ∧ w'.cell? ⟨b2, bo2 + q * 10 + 9, none⟩ = some (.slice aaq yq.args.length acq))) 12 (by kernel_rfl) (by kernel_rfl) (by exact HSS.out _ (Bar.of (Below.drew (Below.refl _ _)))) (fun hHeld => ?_)
        simp only [List.dropLast]
        refine wpAnyH_take (i := 0) (v := ?vm1_0) (by conv => lhs; simp only [List.getElem?_toArray, List.getElem?_cons_succ, List.getElem?_cons_zero]) (by kernel_rfl) (by kernel_rfl) (by kernel_rfl) (by exact fun _ _ _ h => h) (Or.inl ⟨by rfl, ?hym1_0⟩) (by assumption) ?_
        case hym1_0 => (intro w0 hSw; (try dsimp only at hSw); go_simp; (try with_reducible rfl); (try assumption))
        try simp only [Act.put, List.setIfInBounds_toArray, List.set_cons_zero, List.set_cons_succ]
        refine wpAnyH_take (i := 1) (v := ?vm1_1) (by conv => lhs; simp only [List.getElem?_toArray, List.getElem?_cons_succ, List.getElem?_cons_zero]) (by kernel_rfl) (by kernel_rfl) (by kernel_rfl) (by exact fun _ _ _ h => h) (Or.inl ⟨by rfl, ?hym1_1⟩) (by assumption) ?_
        case hym1_1 => (intro w0 hSw; (try dsimp only at hSw); go_simp; (try with_reducible rfl); (try assumption))
        try simp only [Act.put, List.setIfInBounds_toArray, List.set_cons_zero, List.set_cons_succ]
        refine wpAnyH_take (i := 4) (v := ?vm1_4) (by conv => lhs; simp only [List.getElem?_toArray, List.getElem?_cons_succ, List.getElem?_cons_zero]) (by kernel_rfl) (by kernel_rfl) (by kernel_rfl) (by exact fun _ _ _ h => h) (Or.inl ⟨by rfl, ?hym1_4⟩) (by assumption) ?_
        case hym1_4 => (intro w0 hSw; (try dsimp only at hSw); go_simp; (try with_reducible rfl); (try assumption))
        try simp only [Act.put, List.setIfInBounds_toArray, List.set_cons_zero, List.set_cons_succ]
        refine wpAnyH_take (i := 5) (v := ?vm1_5) (by conv => lhs; simp only [List.getElem?_toArray, List.getElem?_cons_succ, List.getElem?_cons_zero]) (by kernel_rfl) (by kernel_rfl) (by kernel_rfl) (by exact fun _ _ _ h => h) (Or.inl ⟨by rfl, ?hym1_5⟩) (by assumption) ?_
        case hym1_5 => (intro w0 hSw; (try dsimp only at hSw); go_simp; (try with_reducible rfl); (try assumption))
        try simp only [Act.put, List.setIfInBounds_toArray, List.set_cons_zero, List.set_cons_succ]
        refine wpAnyH_take (i := 6) (v := ?vm1_6) (by conv => lhs; simp only [List.getElem?_toArray, List.getElem?_cons_succ, List.getElem?_cons_zero]) (by kernel_rfl) (by kernel_rfl) (by kernel_rfl) (by exact fun _ _ _ h => h) (Or.inl ⟨by rfl, ?hym1_6⟩) (by assumption) ?_
        case hym1_6 => (intro w0 hSw; (try dsimp only at hSw); go_simp; (try with_reducible rfl); (try assumption))
        try simp only [Act.put, List.setIfInBounds_toArray, List.set_cons_zero, List.set_cons_succ]
        refine wpAnyH_take (i := 7) (v := ?vm1_7) (by conv => lhs; simp only [List.getElem?_toArray, List.getElem?_cons_succ, List.getElem?_cons_zero]) (by kernel_rfl) (by kernel_rfl) (by kernel_rfl) (by exact fun _ _ _ h => h) (Or.inl ⟨by rfl, ?hym1_7⟩) (by assumption) ?_
        case hym1_7 => (intro w0 hSw; (try dsimp only at hSw); go_simp; (try with_reducible rfl); (try assumption))
        try simp only [Act.put, List.setIfInBounds_toArray, List.set_cons_zero, List.set_cons_succ]
        refine wpAnyH_take (i := 8) (v := ?vm1_8) (by conv => lhs; simp only [List.getElem?_toArray, List.getElem?_cons_succ, List.getElem?_cons_zero]) (by kernel_rfl) (by kernel_rfl) (by kernel_rfl) (by exact fun _ _ _ h => h) (Or.inl ⟨by rfl, ?hym1_8⟩) (by assumption) ?_
        case hym1_8 => (intro w0 hSw; (try dsimp only at hSw); go_simp; (try with_reducible rfl); (try assumption))
        try simp only [Act.put, List.setIfInBounds_toArray, List.set_cons_zero, List.set_cons_succ]
        refine wpAnyH_take (i := 9) (v := ?vm1_9) (by conv => lhs; simp only [List.getElem?_toArray, List.getElem?_cons_succ, List.getElem?_cons_zero]) (by kernel_rfl) (by kernel_rfl) (by kernel_rfl) (by exact fun _ _ _ h => h) (Or.inl ⟨by rfl, ?hym1_9⟩) (by assumption) ?_
        case hym1_9 => (intro w0 hSw; (try dsimp only at hSw); go_simp; (try with_reducible rfl); (try assumption))
        try simp only [Act.put, List.setIfInBounds_toArray, List.set_cons_zero, List.set_cons_succ]
        refine wpAnyH_ready (rs := [2]) (by kernel_rfl) (by simp) ?_
        refine AllReadyH.cons (by conv => lhs; simp only [List.getElem?_toArray, List.getElem?_cons_succ, List.getElem?_cons_zero]) (fun K hK => ?_) AllReadyH.nil
        go_simp
        refine CGH.out.mono ?_
        rintro e w8 ⟨rfl, hst8, hbar8⟩
        have HG8 := Lib.hid ((Bar.of (gc := gs) (Below.drew (Below.refl wr.heap.size wr))).trans hbar8); have HT8 := Lib.hid hst8
        clear hst8 hbar8
        go_wp2_with fail
        refine hK.out _ _ (by exact HSS.out _ HG8.out) (fun hHeld => ?_)
        clear hK K
        try simp only [Act.put, List.setIfInBounds_toArray, List.set_cons_zero, List.set_cons_succ]
        refine wpAnyH_take (i := 3) (v := ?vm2_3) (by conv => lhs; simp only [List.getElem?_toArray, List.getElem?_cons_succ, List.getElem?_cons_zero]) (by kernel_rfl) (by kernel_rfl) (by kernel_rfl) (by exact fun _ _ _ h => h) (Or.inl ⟨by rfl, ?hym2_3⟩) (by assumption) ?_
        case hym2_3 => (intro w0 hSw; (try dsimp only at hSw); go_simp; (try with_reducible rfl); (try assumption))
        try simp only [Act.put, List.setIfInBounds_toArray, List.set_cons_zero, List.set_cons_succ]
        refine wpAnyH_ready (rs := [10]) (by kernel_rfl) (by simp) ?_
        refine AllReadyH.cons (by conv => lhs; simp only [List.getElem?_toArray, List.getElem?_cons_succ, List.getElem?_cons_zero]) (fun K hK => ?_) AllReadyH.nil
        go_simp
        refine (COH.out _ HT8.out (HXY3.out.bar HG8.out hS)).mono ?_
        rintro e w9 ⟨rfl, hst9, hbar9⟩
        have HG9 := Lib.hid (HG8.out.trans hbar9); have HT9 := Lib.hid hst9
        clear hst9 hbar9
        go_wp2_with fail
        refine hK.out _ _ (by exact HSS.out _ HG9.out) (fun hHeld => ?_)
        clear hK K
        try simp only [Act.put, List.setIfInBounds_toArray, List.set_cons_zero, List.set_cons_succ]
        refine wpAnyH_take (i := 11) (v := ?vm3_11) (by conv => lhs; simp only [List.getElem?_toArray, List.getElem?_cons_succ, List.getElem?_cons_zero]) (by kernel_rfl) (by kernel_rfl) (by kernel_rfl) (by exact fun _ _ _ h => h) (Or.inl ⟨by rfl, ?hym3_11⟩) (by assumption) ?_
        case hym3_11 => (intro w0 hSw; (try dsimp only at hSw); go_simp; (try with_reducible rfl); (try assumption))
        try simp only [Act.put, List.setIfInBounds_toArray, List.set_cons_zero, List.set_cons_succ]
        refine wpAnyH_done (by kernel_rfl) ?_ _
        refine LastQ.step (by conv => lhs; simp only [List.getElem?_toArray, List.getElem?_cons_succ, List.getElem?_cons_zero]) (fun K hK => ?_)
        go_simp
        refine hK.out _ _ ?_
        clear hK K
        try simp only [Act.put, List.setIfInBounds_toArray, List.set_cons_zero, List.set_cons_succ]
        go_wp2_with fail
        go_roundw
        case rel => exact ⟨q + 1, _, a3, by omega, by go_num, rfl, HN, HNS, HT9, Lib.hid (HQB.out.trans HG9.out)⟩
        case measure => simp [Lib.intOf]; omega
      · obtain rfl : q = x.args.length := by omega
        have HE := Lib.hid (show F = (tv.data.toList, aq) from by have h9 := HQ.out; rw [List.drop_eq_nil_of_le (by rw [List.length_take]; omega)] at h9; have h8 := h9.1; unfold argsW at h8; rw [List.append_nil] at h8; exact (Prod.ext (show tv.data.toList = F.1 from h8) (show aq = F.2 from h9.2)).symm)
        clear hlt
        go_wp2_with fail
        go_ret
        exact ⟨by rw [HE.out]; rfl, by rw [HE.out]; exact HQT.out, HB.out.trans HQB.out⟩
  | some y =>
    have hne : x.args ≠ [] := fun e => by rw [e] at hl; cases hl
    have hpos := List.length_pos_iff.2 hne
    have hcat := last_cat hl
    have g5 : decide (0 < x.args.length) = true := decide_eq_true hpos
    have hpk := pick_next L a 3
    have CP := tpick gs A c L a 3 W1 HS.out (by omega) (by omega) (by omega)
    have hF := HPW.out
    rw [hl] at hF
    simp only at hF
    obtain ⟨⟨p1, p2⟩, hpp⟩ : ∃ z, z = pickW L a 3 := ⟨_, rfl⟩
    rw [← hpp] at CP hpk hF
    simp only at CP hpk hF
    have CPH := Lib.hid CP
    have hw := HST.out
    clear CP hpp HPW
    by_cases hp1 : p1 = 1
    · rw [if_pos hp1] at hF
      have gp : ((p1 : Int) == 1) = true := by rw [hp1]; rfl
      obtain ⟨m, hm⟩ : ∃ z, z = x.args.length - 1 := ⟨_, rfl⟩
      have hml : m + 1 = x.args.length := by omega
      have hmi : (x.args.length : Int) - 1 = (m : Int) := by omega
      have htk : x.args.take m = x.args.dropLast := by rw [hm, List.dropLast_eq_take]
      have hym : x.args[m]'(by omega) = y := by
        have h9 : (x.args.dropLast ++ [y])[m]? = x.args[m]? := by rw [hcat]
        rw [List.getElem?_append_right (by simp; omega)] at h9
        have h8 : m - x.args.dropLast.length = 0 := by simp; omega
        rw [h8, List.getElem?_eq_getElem (by omega : m < x.args.length)] at h9
        simp at h9
        exact h9.symm
      obtain ⟨b, bo, csy, rfl, hSb, hcy, hxy⟩ := HXA.out m (by omega)
      rw [hym] at hxy
      have hRy := HAR.out y (by rw [← hym]; exact List.getElem_mem _)
      have hdp : 0 < d := hR.deep.resolve_left hne
      have hsum : (x.args.map (wtX (d - 1))).sum = ((x.args.take m).map (wtX (d - 1))).sum + wtX (d - 1) y := by
        rw [htk]
        conv => lhs; rw [← hcat]
        rw [List.map_append, List.sum_append]
        simp
      have hly := pip_len L n (d - 1) y p2 hRy (hdn hdp)
      obtain ⟨lay, lcy, may, mcy, say, scy, aay, acy, rfl, -⟩ := hxy.inv
      obtain ⟨⟨u, a3⟩, hu⟩ : ∃ z, z = pipW L n y p2 := ⟨_, rfl⟩
      have CY := fun (w2 : World) (hs2 : StAt w2 gs A c L p2) (hx2 : RepX w2 S [.int .i64 y.kind, .int .i64 y.val.kind, .bool y.val.bool, .int .i64 y.val.int, .string y.val.str, .slice lay y.val.list.length lcy, .slice may y.val.map.length mcy, .string y.name, .slice say y.steps.length scy, .slice aay y.args.length acy] y) => HPP.out (d - 1) y p2 w2 S _ hRy (hdn hdp) hs2 hx2 hS (by omega) (by omega)
      rw [← hu] at CY hF hly
      simp only at CY hF hly
      have hgl1 := gap_len L a3
      obtain ⟨⟨v1, a4⟩, hv1⟩ : ∃ z, z = gapW L a3 := ⟨_, rfl⟩
      rw [← hv1] at hF hgl1
      simp only at hF hgl1
      have hgl2 := gap_len L a4
      obtain ⟨⟨v2, a5⟩, hv2⟩ : ∃ z, z = gapW L a4 := ⟨_, rfl⟩
      rw [← hv2] at hF hgl2
      simp only at hF hgl2
      have CG1 := Lib.hid (fun (w2 : World) (hs2 : StAt w2 gs A c L a3) => show Calls Tryz.prog 35 #[.pointer (some ⟨gs, 0, none⟩)] w2 (fun e w' => e = .returned (.string (bs v1)) ∧ StAt w' gs A c L a4 ∧ Bar w2 w' gs) from by have h9 := tgap gs A c L a3 w2 hs2 (by omega); rw [← hv1] at h9; exact h9)
      have CG2 := Lib.hid (fun (w2 : World) (hs2 : StAt w2 gs A c L a4) => show Calls Tryz.prog 35 #[.pointer (some ⟨gs, 0, none⟩)] w2 (fun e w' => e = .returned (.string (bs v2)) ∧ StAt w' gs A c L a5 ∧ Bar w2 w' gs) from by have h9 := tgap gs A c L a4 w2 hs2 (by omega); rw [← hv2] at h9; exact h9)
      obtain ⟨su, hsu⟩ : ∃ z, z = bs u := ⟨_, rfl⟩
      obtain ⟨s1, hs1⟩ : ∃ z, z = bs v1 := ⟨_, rfl⟩
      obtain ⟨s2, hs2⟩ : ∃ z, z = bs v2 := ⟨_, rfl⟩
      have CYH := Lib.hid (fun (w2 : World) (h1 : StAt w2 gs A c L p2) (h2 : RepX w2 S [.int .i64 y.kind, .int .i64 y.val.kind, .bool y.val.bool, .int .i64 y.val.int, .string y.val.str, .slice lay y.val.list.length lcy, .slice may y.val.map.length mcy, .string y.name, .slice say y.steps.length scy, .slice aay y.args.length acy] y) => show Calls Tryz.prog 18 #[.pointer (some ⟨gs, 0, none⟩), .agg #[.int .i64 y.kind, .int .i64 y.val.kind, .bool y.val.bool, .int .i64 y.val.int, .string y.val.str, .slice lay y.val.list.length lcy, .slice may y.val.map.length mcy, .string y.name, .slice say y.steps.length scy, .slice aay y.args.length acy]] w2 (fun e w' => e = .returned (.string su) ∧ StAt w' gs A c L a3 ∧ Bar w2 w' gs) from by rw [hsu]; exact CY w2 h1 h2)
      rw [← hs1] at CG1
      rw [← hs2] at CG2
      have z0 : su.size ≤ 1000000 := by rw [hsu, bs_size]; omega
      have z1 : s1.size ≤ 2 := by rw [hs1, bs_size]; exact hgl1.1
      have z2 : s2.size ≤ 2 := by rw [hs2, bs_size]; exact hgl2.1
      have hlist : (su ++ s1 ++ ⟨#[124]⟩ ++ s2).data.toList = u ++ (v1 ++ (124 :: v2)) := by rw [hsu, hs1, hs2]; simp
      have HAT := Lib.hid (fun (w9 : World) (h5 : StAt w9 gs A c L a5) (h6 : Bar W1 w9 gs) => HREST.out m (su ++ s1 ++ ⟨#[124]⟩ ++ s2) a5 w9 (by omega) (by rw [hlist, htk, hF]; unfold callW; simp only [List.append_assoc, List.cons_append]) (by rw [htk, hF]; rfl) (by omega) h5 h6)
      have hbl : b < W1.heap.size := hcy.lt
      have HC := Lib.hid (fun (w2 : World) (hb2 : Bar W1 w2 gs) => show cellsAt w2 b (bo + m * 10) [.int .i64 y.kind, .int .i64 y.val.kind, .bool y.val.bool, .int .i64 y.val.int, .string y.val.str, .slice lay y.val.list.length lcy, .slice may y.val.map.length mcy, .string y.name, .slice say y.steps.length scy, .slice aay y.args.length acy] from hcy.keep fun i => hb2.cell hbl (hS b hSb))
      have HXY := Lib.hid hxy
      have hg0 : (0 : Int) ≤ (m : Int) := by omega
      have hg1 : (m : Int) < (x.args.length : Int) := by omega
      have HMI := Lib.hid hmi
      have hwk : IntKind.i64.wrap ((x.args.length : Int) - 1) = (m : Int) := by rw [hmi]; exact wrap_fit (by omega) (by omega)
      clear hm hml hmi htk hym hcy hxy hRy hsum hly CY hu hv1 hv2 hsu hs1 hs2 hlist hF hl hne hcat hp1 hw HREST
      have k0 := H0.out.cell; have f0 := H0.out.frozen; have l0 := H0.out.lt
      go_enter Tryz.func18, Tryz.ntmps18
      go_upto_region 1 with fail
      rw [← E1.out, ← E3.out]
      go_wp2_with fail
      refine CPH.out.mono ?_
      rintro e w2 ⟨rfl, hst2, hbar2⟩
      have HST2 := Lib.hid hst2; have HBR2 := Lib.hid hbar2; have H02 := Lib.hid (hbar2.blk H0.out hn3); have HXY2 := Lib.hid (HXY.out.bar hbar2 hS)
      have hcw := HC.out w2 hbar2
      have c0 : w2.cell? ⟨b, bo + m * 10, none⟩ = some (.int .i64 y.kind) := hcw 0 _ rfl; have c1 : w2.cell? ⟨b, bo + m * 10 + 1, none⟩ = some (.int .i64 y.val.kind) := hcw 1 _ rfl; have c2 : w2.cell? ⟨b, bo + m * 10 + 2, none⟩ = some (.bool y.val.bool) := hcw 2 _ rfl; have c3 : w2.cell? ⟨b, bo + m * 10 + 3, none⟩ = some (.int .i64 y.val.int) := hcw 3 _ rfl; have c4 : w2.cell? ⟨b, bo + m * 10 + 4, none⟩ = some (.string y.val.str) := hcw 4 _ rfl; have c5 : w2.cell? ⟨b, bo + m * 10 + 5, none⟩ = some (.slice lay y.val.list.length lcy) := hcw 5 _ rfl; have c6 : w2.cell? ⟨b, bo + m * 10 + 6, none⟩ = some (.slice may y.val.map.length mcy) := hcw 6 _ rfl; have c7 : w2.cell? ⟨b, bo + m * 10 + 7, none⟩ = some (.string y.name) := hcw 7 _ rfl; have c8 : w2.cell? ⟨b, bo + m * 10 + 8, none⟩ = some (.slice say y.steps.length scy) := hcw 8 _ rfl; have c9 : w2.cell? ⟨b, bo + m * 10 + 9, none⟩ = some (.slice aay y.args.length acy) := hcw 9 _ rfl
      have hlw2 : b < w2.heap.size := Nat.lt_of_lt_of_le hbl hbar2.size
      clear hst2 hbar2 k0 f0 l0 hcw
      have k0 := H02.out.cell; have f0 := H02.out.frozen; have l0 := H02.out.lt
      go_wp2_with fail
      refine (CYH.out _ HST2.out HXY2.out).mono ?_
      rintro e w4 ⟨rfl, hst4, hbar4⟩
      have HST4 := Lib.hid hst4; have HBR4 := Lib.hid (HBR2.out.trans hbar4); have H04 := Lib.hid (hbar4.blk H02.out hn3)
      clear hst4 hbar4 k0 f0 l0 c0 c1 c2 c3 c4 c5 c6 c7 c8 c9
      go_wp2_with fail
      refine (CG1.out _ HST4.out).mono ?_
      rintro e w5 ⟨rfl, hst5, hbar5⟩
      have HST5 := Lib.hid hst5; have HBR5 := Lib.hid (HBR4.out.trans hbar5); have H05 := Lib.hid (hbar5.blk H04.out hn3)
      clear hst5 hbar5
      go_wp2_with fail
      refine (CG2.out _ HST5.out).mono ?_
      rintro e w6 ⟨rfl, hst6, hbar6⟩
      have H06 := Lib.hid (hbar6.blk H05.out hn3); have HAT2 := Lib.hid (HAT.out w6 hst6 (HBR5.out.trans hbar6))
      clear hst6 hbar6 HAT
      have HAT := HAT2
      clear HAT2
      go_upto_region 8 with fail
      have k0 := H06.out.cell; have f0 := H06.out.frozen; have l0 := H06.out.lt
      have hz8 : ByteArray.size (su ++ s1 ++ ⟨#[124]⟩ ++ s2) + x.name.size ≤ 1000000 := by have h9 := congrArg List.length HAT.out.text; rw [List.length_append, List.length_append, ← size_list, ← size_list] at h9; omega
      have hz9 : ByteArray.size (su ++ s1 ++ ⟨#[124]⟩ ++ s2) ≤ 1000000 := by omega
      have hML := HAT.out.le
      have HI0 := Lib.hid (show (((su ++ s1 ++ ⟨#[124]⟩ ++ s2) ++ x.name).data.toList ++ (argsW L (pipW L n) ((x.args.take m).drop 0) a5).1 = F.1 ∧ (argsW L (pipW L n) ((x.args.take m).drop 0) a5).2 = F.2) from ⟨by rw [List.drop_zero, ← HAT.out.text]; simp, by rw [List.drop_zero]; exact HAT.out.at_⟩)
      have HI1 := Lib.hid (show a5 + 6 * (((x.args.take m).drop 0).map (wtX (d - 1))).sum + 2 ≤ 1000000000 from by rw [List.drop_zero]; exact HAT.out.sum)
      have HI2 := Lib.hid HAT.out.st; have HI3 := Lib.hid HAT.out.bar
      clear HAT
      go_wp2_with fail
      go_loopw [6, 7] (fun x6 x7 wr => ∃ (q : Nat) (tv : ByteArray) (aq : Nat), q ≤ m ∧ x7 = .int .i64 q ∧ x6 = .string tv ∧ Hid (tv.data.toList ++ (argsW L (pipW L n) ((x.args.take m).drop q) aq).1 = F.1 ∧ (argsW L (pipW L n) ((x.args.take m).drop q) aq).2 = F.2) ∧ Hid (aq + 6 * (((x.args.take m).drop q).map (wtX (d - 1))).sum + 2 ≤ 1000000000) ∧ Hid (StAt wr gs A c L aq) ∧ Hid (Bar W1 wr gs)) (fun _ x7 _ => m - (Lib.intOf x7).toNat)
      case atStart => exact ⟨0, _, a5, Nat.zero_le _, rfl, rfl, HI0, HI1, HI2, HI3⟩
      case round =>
        obtain ⟨q, tv, aq, hq, rfl, rfl, HQ, HQS, HQT, HQB⟩ := hrel
        clear k0 f0 l0 HI0 HI1 HI2 HI3
        by_cases hlt : q < m
        · have hqx : q < x.args.length := by omega
          obtain ⟨b2, bo2, csq, eaa, hSb2, hcy2, hxy2⟩ := HXA.out q hqx
          cases eaa
          obtain ⟨yq, hy⟩ : ∃ z, z = x.args[q] := ⟨_, rfl⟩
          rw [← hy] at hxy2
          have hmem : yq ∈ x.args := by rw [hy]; exact List.getElem_mem _
          have hRy2 := HAR.out yq hmem
          have hdp2 : 0 < d := hR.deep.resolve_left (fun e => by rw [e] at hmem; cases hmem)
          have hdr : (x.args.take m).drop q = yq :: (x.args.take m).drop (q + 1) := by rw [drop_cons (by rw [List.length_take]; omega), hy, List.getElem_take]
          have hsm := HQS.out
          have hq2 := HQ.out
          rw [hdr, argsW] at hq2
          rw [hdr] at hsm
          simp only [List.map_cons, List.sum_cons] at hsm
          simp only at hq2
          have hwy := sum_mem (wtX (d - 1)) hmem
          have hwx := HST.out
          have hgl3 := gap_len L aq
          have CG0 := tgap gs A c L aq wr.drew (HQT.out.keep (Below.drew (Below.refl _ _))) (by omega)
          obtain ⟨⟨g, a2⟩, hg⟩ : ∃ z, z = gapW L aq := ⟨_, rfl⟩
          rw [← hg] at hq2 hgl3 CG0
          simp only at hq2 hgl3 CG0
          have hol := op_len (pip_len L n) (a := a2) hRy2 (hdn hdp2)
          obtain ⟨laq, lcq, maq, mcq, saq, scq, aaq, acq, rfl, -⟩ := hxy2.inv
          have hA9 : a2 + 6 * wtX (d - 1) yq < 1000000000 := by omega
          have hB9 : 40 * wtX (d - 1) yq ≤ 1000000 := by omega
          have CO := fun (w2 : World) (hs2 : StAt w2 gs A c L a2) (hx2 : RepX w2 S [.int .i64 yq.kind, .int .i64 yq.val.kind, .bool yq.val.bool, .int .i64 yq.val.int, .string yq.val.str, .slice laq yq.val.list.length lcq, .slice maq yq.val.map.length mcq, .string yq.name, .slice saq yq.steps.length scq, .slice aaq yq.args.length acq] yq) => HOO.out (d - 1) yq a2 w2 S _ hRy2 (hdn hdp2) hs2 hx2 hS hA9 hB9
          obtain ⟨⟨o, a3⟩, ho⟩ : ∃ z, z = opW L (pipW L n) yq a2 := ⟨_, rfl⟩
          rw [← ho] at CO hq2 hol
          simp only at CO hq2 hol
          obtain ⟨sg, hsg⟩ : ∃ z, z = bs g := ⟨_, rfl⟩
          obtain ⟨so, hso⟩ : ∃ z, z = bs o := ⟨_, rfl⟩
          rw [← hsg] at CG0
          have CGH := Lib.hid CG0
          have COH := Lib.hid (fun (w2 : World) (h1 : StAt w2 gs A c L a2) (h2 : RepX w2 S [.int .i64 yq.kind, .int .i64 yq.val.kind, .bool yq.val.bool, .int .i64 yq.val.int, .string yq.val.str, .slice laq yq.val.list.length lcq, .slice maq yq.val.map.length mcq, .string yq.name, .slice saq yq.steps.length scq, .slice aaq yq.args.length acq] yq) => show Calls Tryz.prog 33 #[.pointer (some ⟨gs, 0, none⟩), .agg #[.int .i64 yq.kind, .int .i64 yq.val.kind, .bool yq.val.bool, .int .i64 yq.val.int, .string yq.val.str, .slice laq yq.val.list.length lcq, .slice maq yq.val.map.length mcq, .string yq.name, .slice saq yq.steps.length scq, .slice aaq yq.args.length acq]] w2 (fun e w' => e = .returned (.string so) ∧ StAt w' gs A c L a3 ∧ Bar w2 w' gs) from by rw [hso]; exact CO w2 h1 h2)
          have HN := Lib.hid (show (tv ++ sg ++ so).data.toList ++ (argsW L (pipW L n) ((x.args.take m).drop (q + 1)) a3).1 = F.1 ∧ (argsW L (pipW L n) ((x.args.take m).drop (q + 1)) a3).2 = F.2 from ⟨by rw [← hq2.1, hsg, hso]; simp, hq2.2⟩)
          have HNS := Lib.hid (show a3 + 6 * (((x.args.take m).drop (q + 1)).map (wtX (d - 1))).sum + 2 ≤ 1000000000 from by omega)
          have hzz : tv.size + sg.size + so.size ≤ 1000000 := by have h9 := congrArg List.length hq2.1; simp only [List.length_append] at h9; have e1 := size_list tv; (have e2 : sg.size = g.length := by rw [hsg, bs_size]); (have e3 : so.size = o.length := by rw [hso, bs_size]); omega
          have hz3 : tv.size ≤ 1000000 := by omega
          have hz4 : tv.size + sg.size ≤ 1000000 := by omega
          have hnot1 : ¬ 9223372036854775807 < tv.size + sg.size := by omega
          have hnot2 : ¬ 9223372036854775807 < tv.size + sg.size + so.size := by omega
          have hbl2 : b < W1.heap.size := hcy2.lt
          have hcw2 : cellsAt wr b (bo + q * 10) [.int .i64 yq.kind, .int .i64 yq.val.kind, .bool yq.val.bool, .int .i64 yq.val.int, .string yq.val.str, .slice laq yq.val.list.length lcq, .slice maq yq.val.map.length mcq, .string yq.name, .slice saq yq.steps.length scq, .slice aaq yq.args.length acq] := hcy2.keep fun i => HQB.out.cell hbl2 (hS b hSb2)
          have hlwr : b < wr.heap.size := Nat.lt_of_lt_of_le hbl2 HQB.out.size
          have hneb : b ≠ gs := hS b hSb2
          have hn3r : n3 < wr.heap.size := Nat.lt_of_lt_of_le H0.out.lt HQB.out.size
          have HX0 := Lib.hid (HQB.out.blk H0.out hn3)
          have HSS := Lib.hid (show ∀ wx, Bar wr wx gs → (fun w' => (∀ i, w'.cell? ⟨n3, i, none⟩ = (#[.int .i64 x.kind, .int .i64 x.val.kind, .bool x.val.bool, .int .i64 x.val.int, .string x.val.str, .slice la x.val.list.length lc, .slice ma x.val.map.length mc, .string x.name, .slice sa x.steps.length sc, .slice (some ⟨b, bo, none⟩) x.args.length ac] : Array Value)[i]?) ∧ w'.cell? ⟨b, bo + q * 10, none⟩ = some (.int .i64 yq.kind) ∧ w'.cell? ⟨b, bo + q * 10 + 1, none⟩ = some (.int .i64 yq.val.kind) ∧ w'.cell? ⟨b, bo + q * 10 + 2, none⟩ = some (.bool yq.val.bool) ∧ w'.cell? ⟨b, bo + q * 10 + 3, none⟩ = some (.int .i64 yq.val.int) ∧ w'.cell? ⟨b, bo + q * 10 + 4, none⟩ = some (.string yq.val.str) ∧ w'.cell? ⟨b, bo + q * 10 + 5, none⟩ = some (.slice laq yq.val.list.length lcq) ∧ w'.cell? ⟨b, bo + q * 10 + 6, none⟩ = some (.slice maq yq.val.map.length mcq) ∧ w'.cell? ⟨b, bo + q * 10 + 7, none⟩ = some (.string yq.name) ∧ w'.cell? ⟨b, bo + q * 10 + 8, none⟩ = some (.slice saq yq.steps.length scq) ∧ w'.cell? ⟨b, bo + q * 10 + 9, none⟩ = some (.slice aaq yq.args.length acq)) wx from fun wx hx => ⟨(hx.blk HX0.out hn3).cell, (hx.cell (o := bo + q * 10) hlwr hneb).trans (hcw2 0 _ rfl), (hx.cell (o := bo + q * 10 + 1) hlwr hneb).trans (hcw2 1 _ rfl), (hx.cell (o := bo + q * 10 + 2) hlwr hneb).trans (hcw2 2 _ rfl), (hx.cell (o := bo + q * 10 + 3) hlwr hneb).trans (hcw2 3 _ rfl), (hx.cell (o := bo + q * 10 + 4) hlwr hneb).trans (hcw2 4 _ rfl), (hx.cell (o := bo + q * 10 + 5) hlwr hneb).trans (hcw2 5 _ rfl), (hx.cell (o := bo + q * 10 + 6) hlwr hneb).trans (hcw2 6 _ rfl), (hx.cell (o := bo + q * 10 + 7) hlwr hneb).trans (hcw2 7 _ rfl), (hx.cell (o := bo + q * 10 + 8) hlwr hneb).trans (hcw2 8 _ rfl), (hx.cell (o := bo + q * 10 + 9) hlwr hneb).trans (hcw2 9 _ rfl)⟩)
          have HXY3 := Lib.hid (hxy2.bar HQB.out hS)
          have hg0 : (0 : Int) ≤ (q : Int) := by omega
          have hg1 : (q : Int) < (x.args.length : Int) := by omega
          have hg2 : (q : Int) < ((m : Nat) : Int) := by omega
          have hwk2 : IntKind.i64.wrap ((q : Int) + 1) = (q : Int) + 1 := wrap_fit (by omega) (by omega)
          clear hcy2 hxy2 hy hmem hdr hsm hq2 hwy hwx hg ho hsg hso CO CG0 hcw2 HQ HQS
          go_upto_region 12 with fail
          refine wp_region_tail (S := (fun w' => (∀ i, w'.cell? ⟨n3, i, none⟩ = (#[.int .i64 x.kind, .int .i64 x.val.kind, .bool x.val.bool, .int .i64 x.val.int, .string x.val.str, .slice la x.val.list.length lc, .slice ma x.val.map.length mc, .string x.name, .slice sa x.steps.length sc, .slice (some ⟨b, bo, none⟩) x.args.length ac] : Array Value)[i]?) ∧ w'.cell? ⟨b, bo + q * 10, none⟩ = some (.int .i64 yq.kind) ∧ w'.cell? ⟨b, bo + q * 10 + 1, none⟩ = some (.int .i64 yq.val.kind) ∧ w'.cell? ⟨b, bo + q * 10 + 2, none⟩ = some (.bool yq.val.bool) ∧ w'.cell? ⟨b, bo + q * 10 + 3, none⟩ = some (.int .i64 yq.val.int) ∧ w'.cell? ⟨b, bo + q * 10 + 4, none⟩ = some (.string yq.val.str) ∧ w'.cell? ⟨b, bo + q * 10 + 5, none⟩ = some (.slice laq yq.val.list.length lcq) ∧ w'.cell? ⟨b, bo + q * 10 + 6, none⟩ = some (.slice maq yq.val.map.length mcq) ∧ w'.cell? ⟨b, bo + q * 10 + 7, none⟩ = some (.string yq.name) ∧ w'.cell? ⟨b, bo + q * 10 + 8, none⟩ = some (.slice saq yq.steps.length scq) ∧ w'.cell? ⟨b, bo + q * 10 + 9, none⟩ = some (.slice aaq yq.args.length acq))) 12 (by kernel_rfl) (by kernel_rfl) (by exact HSS.out _ (Bar.of (Below.drew (Below.refl _ _)))) (fun hHeld => ?_)
          simp only [List.dropLast]
          refine wpAnyH_take (i := 0) (v := ?vm4_0) (by conv => lhs; simp only [List.getElem?_toArray, List.getElem?_cons_succ, List.getElem?_cons_zero]) (by kernel_rfl) (by kernel_rfl) (by kernel_rfl) (by exact fun _ _ _ h => h) (Or.inl ⟨by rfl, ?hym4_0⟩) (by assumption) ?_
          case hym4_0 => (intro w0 hSw; (try dsimp only at hSw); go_simp; (try with_reducible rfl); (try assumption))
          try simp only [Act.put, List.setIfInBounds_toArray, List.set_cons_zero, List.set_cons_succ]
          refine wpAnyH_take (i := 1) (v := ?vm4_1) (by conv => lhs; simp only [List.getElem?_toArray, List.getElem?_cons_succ, List.getElem?_cons_zero]) (by kernel_rfl) (by kernel_rfl) (by kernel_rfl) (by exact fun _ _ _ h => h) (Or.inl ⟨by rfl, ?hym4_1⟩) (by assumption) ?_
          case hym4_1 => (intro w0 hSw; (try dsimp only at hSw); go_simp; (try with_reducible rfl); (try assumption))
          try simp only [Act.put, List.setIfInBounds_toArray, List.set_cons_zero, List.set_cons_succ]
          refine wpAnyH_take (i := 4) (v := ?vm4_4) (by conv => lhs; simp only [List.getElem?_toArray, List.getElem?_cons_succ, List.getElem?_cons_zero]) (by kernel_rfl) (by kernel_rfl) (by kernel_rfl) (by exact fun _ _ _ h => h) (Or.inl ⟨by rfl, ?hym4_4⟩) (by assumption) ?_
          case hym4_4 => (intro w0 hSw; (try dsimp only at hSw); go_simp; (try with_reducible rfl); (try assumption))
          try simp only [Act.put, List.setIfInBounds_toArray, List.set_cons_zero, List.set_cons_succ]
          refine wpAnyH_take (i := 5) (v := ?vm4_5) (by conv => lhs; simp only [List.getElem?_toArray, List.getElem?_cons_succ, List.getElem?_cons_zero]) (by kernel_rfl) (by kernel_rfl) (by kernel_rfl) (by exact fun _ _ _ h => h) (Or.inl ⟨by rfl, ?hym4_5⟩) (by assumption) ?_
          case hym4_5 => (intro w0 hSw; (try dsimp only at hSw); go_simp; (try with_reducible rfl); (try assumption))
          try simp only [Act.put, List.setIfInBounds_toArray, List.set_cons_zero, List.set_cons_succ]
          refine wpAnyH_take (i := 6) (v := ?vm4_6) (by conv => lhs; simp only [List.getElem?_toArray, List.getElem?_cons_succ, List.getElem?_cons_zero]) (by kernel_rfl) (by kernel_rfl) (by kernel_rfl) (by exact fun _ _ _ h => h) (Or.inl ⟨by rfl, ?hym4_6⟩) (by assumption) ?_
          case hym4_6 => (intro w0 hSw; (try dsimp only at hSw); go_simp; (try with_reducible rfl); (try assumption))
          try simp only [Act.put, List.setIfInBounds_toArray, List.set_cons_zero, List.set_cons_succ]
          refine wpAnyH_take (i := 7) (v := ?vm4_7) (by conv => lhs; simp only [List.getElem?_toArray, List.getElem?_cons_succ, List.getElem?_cons_zero]) (by kernel_rfl) (by kernel_rfl) (by kernel_rfl) (by exact fun _ _ _ h => h) (Or.inl ⟨by rfl, ?hym4_7⟩) (by assumption) ?_
          case hym4_7 => (intro w0 hSw; (try dsimp only at hSw); go_simp; (try with_reducible rfl); (try assumption))
          try simp only [Act.put, List.setIfInBounds_toArray, List.set_cons_zero, List.set_cons_succ]
          refine wpAnyH_take (i := 8) (v := ?vm4_8) (by conv => lhs; simp only [List.getElem?_toArray, List.getElem?_cons_succ, List.getElem?_cons_zero]) (by kernel_rfl) (by kernel_rfl) (by kernel_rfl) (by exact fun _ _ _ h => h) (Or.inl ⟨by rfl, ?hym4_8⟩) (by assumption) ?_
          case hym4_8 => (intro w0 hSw; (try dsimp only at hSw); go_simp; (try with_reducible rfl); (try assumption))
          try simp only [Act.put, List.setIfInBounds_toArray, List.set_cons_zero, List.set_cons_succ]
          refine wpAnyH_take (i := 9) (v := ?vm4_9) (by conv => lhs; simp only [List.getElem?_toArray, List.getElem?_cons_succ, List.getElem?_cons_zero]) (by kernel_rfl) (by kernel_rfl) (by kernel_rfl) (by exact fun _ _ _ h => h) (Or.inl ⟨by rfl, ?hym4_9⟩) (by assumption) ?_
          case hym4_9 => (intro w0 hSw; (try dsimp only at hSw); go_simp; (try with_reducible rfl); (try assumption))
          try simp only [Act.put, List.setIfInBounds_toArray, List.set_cons_zero, List.set_cons_succ]
          refine wpAnyH_ready (rs := [2]) (by kernel_rfl) (by simp) ?_
          refine AllReadyH.cons (by conv => lhs; simp only [List.getElem?_toArray, List.getElem?_cons_succ, List.getElem?_cons_zero]) (fun K hK => ?_) AllReadyH.nil
          go_simp
          refine CGH.out.mono ?_
          rintro e w8 ⟨rfl, hst8, hbar8⟩
          have HG8 := Lib.hid ((Bar.of (gc := gs) (Below.drew (Below.refl wr.heap.size wr))).trans hbar8); have HT8 := Lib.hid hst8
          clear hst8 hbar8
          go_wp2_with fail
          refine hK.out _ _ (by exact HSS.out _ HG8.out) (fun hHeld => ?_)
          clear hK K
          try simp only [Act.put, List.setIfInBounds_toArray, List.set_cons_zero, List.set_cons_succ]
          refine wpAnyH_take (i := 3) (v := ?vm5_3) (by conv => lhs; simp only [List.getElem?_toArray, List.getElem?_cons_succ, List.getElem?_cons_zero]) (by kernel_rfl) (by kernel_rfl) (by kernel_rfl) (by exact fun _ _ _ h => h) (Or.inl ⟨by rfl, ?hym5_3⟩) (by assumption) ?_
          case hym5_3 => (intro w0 hSw; (try dsimp only at hSw); go_simp; (try with_reducible rfl); (try assumption))
          try simp only [Act.put, List.setIfInBounds_toArray, List.set_cons_zero, List.set_cons_succ]
          refine wpAnyH_ready (rs := [10]) (by kernel_rfl) (by simp) ?_
          refine AllReadyH.cons (by conv => lhs; simp only [List.getElem?_toArray, List.getElem?_cons_succ, List.getElem?_cons_zero]) (fun K hK => ?_) AllReadyH.nil
          go_simp
          refine (COH.out _ HT8.out (HXY3.out.bar HG8.out hS)).mono ?_
          rintro e w9 ⟨rfl, hst9, hbar9⟩
          have HG9 := Lib.hid (HG8.out.trans hbar9); have HT9 := Lib.hid hst9
          clear hst9 hbar9
          go_wp2_with fail
          refine hK.out _ _ (by exact HSS.out _ HG9.out) (fun hHeld => ?_)
          clear hK K
          try simp only [Act.put, List.setIfInBounds_toArray, List.set_cons_zero, List.set_cons_succ]
          refine wpAnyH_take (i := 11) (v := ?vm6_11) (by conv => lhs; simp only [List.getElem?_toArray, List.getElem?_cons_succ, List.getElem?_cons_zero]) (by kernel_rfl) (by kernel_rfl) (by kernel_rfl) (by exact fun _ _ _ h => h) (Or.inl ⟨by rfl, ?hym6_11⟩) (by assumption) ?_
          case hym6_11 => (intro w0 hSw; (try dsimp only at hSw); go_simp; (try with_reducible rfl); (try assumption))
          try simp only [Act.put, List.setIfInBounds_toArray, List.set_cons_zero, List.set_cons_succ]
          refine wpAnyH_done (by kernel_rfl) ?_ _
          refine LastQ.step (by conv => lhs; simp only [List.getElem?_toArray, List.getElem?_cons_succ, List.getElem?_cons_zero]) (fun K hK => ?_)
          go_simp
          refine hK.out _ _ ?_
          clear hK K
          try simp only [Act.put, List.setIfInBounds_toArray, List.set_cons_zero, List.set_cons_succ]
          go_wp2_with fail
          go_roundw
          case rel => exact ⟨q + 1, _, a3, by omega, by go_num, rfl, HN, HNS, HT9, Lib.hid (HQB.out.trans HG9.out)⟩
          case measure => simp [Lib.intOf]; omega
        · obtain rfl : q = m := by omega
          have HE := Lib.hid (show F = (tv.data.toList, aq) from by have h9 := HQ.out; rw [List.drop_eq_nil_of_le (by rw [List.length_take]; omega)] at h9; have h8 := h9.1; unfold argsW at h8; rw [List.append_nil] at h8; exact (Prod.ext (show tv.data.toList = F.1 from h8) (show aq = F.2 from h9.2)).symm)
          clear hlt
          go_wp2_with fail
          go_ret
          exact ⟨by rw [HE.out]; rfl, by rw [HE.out]; exact HQT.out, HB.out.trans HQB.out⟩
    · rw [if_neg hp1] at hF
      have gp : ((p1 : Int) == 1) = false := beq_eq_false_iff_ne.2 (by omega)
      have HAT0 := Lib.hid (fun (w9 : World) (h5 : StAt w9 gs A c L p2) (h6 : Bar W1 w9 gs) => HREST.out x.args.length ⟨#[]⟩ p2 w9 (Nat.le_refl _) (by rw [List.take_length, hF]; rfl) (by rw [List.take_length, hF]; rfl) (by rw [List.take_length]; omega) h5 h6)
      clear hF hl hne hcat hp1 hw HREST
      have k0 := H0.out.cell; have f0 := H0.out.frozen; have l0 := H0.out.lt
      go_enter Tryz.func18, Tryz.ntmps18
      go_upto_region 1 with fail
      rw [← E1.out, ← E3.out]
      go_wp2_with fail
      refine CPH.out.mono ?_
      rintro e w2 ⟨rfl, hst2, hbar2⟩
      have H02 := Lib.hid (hbar2.blk H0.out hn3); have HAT := Lib.hid (HAT0.out w2 hst2 hbar2)
      clear hst2 hbar2 k0 f0 l0 HAT0
      go_upto_region 8 with fail
      have k0 := H02.out.cell; have f0 := H02.out.frozen; have l0 := H02.out.lt
      have hz8 : ByteArray.size ⟨#[]⟩ + x.name.size ≤ 1000000 := by have h9 := congrArg List.length HAT.out.text; rw [List.length_append, List.length_append, ← size_list, ← size_list] at h9; omega
      have hz9 : ByteArray.size ⟨#[]⟩ ≤ 1000000 := by omega
      have hML := HAT.out.le
      have HI0 := Lib.hid (show ((⟨#[]⟩ ++ x.name).data.toList ++ (argsW L (pipW L n) ((x.args.take x.args.length).drop 0) p2).1 = F.1 ∧ (argsW L (pipW L n) ((x.args.take x.args.length).drop 0) p2).2 = F.2) from ⟨by rw [List.drop_zero, ← HAT.out.text]; simp, by rw [List.drop_zero]; exact HAT.out.at_⟩)
      have HI1 := Lib.hid (show p2 + 6 * (((x.args.take x.args.length).drop 0).map (wtX (d - 1))).sum + 2 ≤ 1000000000 from by rw [List.drop_zero]; exact HAT.out.sum)
      have HI2 := Lib.hid HAT.out.st; have HI3 := Lib.hid HAT.out.bar
      clear HAT
      go_wp2_with fail
      go_loopw [6, 7] (fun x6 x7 wr => ∃ (q : Nat) (tv : ByteArray) (aq : Nat), q ≤ x.args.length ∧ x7 = .int .i64 q ∧ x6 = .string tv ∧ Hid (tv.data.toList ++ (argsW L (pipW L n) ((x.args.take x.args.length).drop q) aq).1 = F.1 ∧ (argsW L (pipW L n) ((x.args.take x.args.length).drop q) aq).2 = F.2) ∧ Hid (aq + 6 * (((x.args.take x.args.length).drop q).map (wtX (d - 1))).sum + 2 ≤ 1000000000) ∧ Hid (StAt wr gs A c L aq) ∧ Hid (Bar W1 wr gs)) (fun _ x7 _ => x.args.length - (Lib.intOf x7).toNat)
      case atStart => exact ⟨0, _, p2, Nat.zero_le _, rfl, rfl, HI0, HI1, HI2, HI3⟩
      case round =>
        obtain ⟨q, tv, aq, hq, rfl, rfl, HQ, HQS, HQT, HQB⟩ := hrel
        clear k0 f0 l0 HI0 HI1 HI2 HI3
        by_cases hlt : q < x.args.length
        · have hqx : q < x.args.length := by omega
          obtain ⟨b2, bo2, csq, eaa, hSb2, hcy2, hxy2⟩ := HXA.out q hqx
          cases eaa
          obtain ⟨yq, hy⟩ : ∃ z, z = x.args[q] := ⟨_, rfl⟩
          rw [← hy] at hxy2
          have hmem : yq ∈ x.args := by rw [hy]; exact List.getElem_mem _
          have hRy2 := HAR.out yq hmem
          have hdp2 : 0 < d := hR.deep.resolve_left (fun e => by rw [e] at hmem; cases hmem)
          have hdr : (x.args.take x.args.length).drop q = yq :: (x.args.take x.args.length).drop (q + 1) := by rw [drop_cons (by rw [List.length_take]; omega), hy, List.getElem_take]
          have hsm := HQS.out
          have hq2 := HQ.out
          rw [hdr, argsW] at hq2
          rw [hdr] at hsm
          simp only [List.map_cons, List.sum_cons] at hsm
          simp only at hq2
          have hwy := sum_mem (wtX (d - 1)) hmem
          have hwx := HST.out
          have hgl3 := gap_len L aq
          have CG0 := tgap gs A c L aq wr.drew (HQT.out.keep (Below.drew (Below.refl _ _))) (by omega)
          obtain ⟨⟨g, a2⟩, hg⟩ : ∃ z, z = gapW L aq := ⟨_, rfl⟩
          rw [← hg] at hq2 hgl3 CG0
          simp only at hq2 hgl3 CG0
          have hol := op_len (pip_len L n) (a := a2) hRy2 (hdn hdp2)
          obtain ⟨laq, lcq, maq, mcq, saq, scq, aaq, acq, rfl, -⟩ := hxy2.inv
          have hA9 : a2 + 6 * wtX (d - 1) yq < 1000000000 := by omega
          have hB9 : 40 * wtX (d - 1) yq ≤ 1000000 := by omega
          have CO := fun (w2 : World) (hs2 : StAt w2 gs A c L a2) (hx2 : RepX w2 S [.int .i64 yq.kind, .int .i64 yq.val.kind, .bool yq.val.bool, .int .i64 yq.val.int, .string yq.val.str, .slice laq yq.val.list.length lcq, .slice maq yq.val.map.length mcq, .string yq.name, .slice saq yq.steps.length scq, .slice aaq yq.args.length acq] yq) => HOO.out (d - 1) yq a2 w2 S _ hRy2 (hdn hdp2) hs2 hx2 hS hA9 hB9
          obtain ⟨⟨o, a3⟩, ho⟩ : ∃ z, z = opW L (pipW L n) yq a2 := ⟨_, rfl⟩
          rw [← ho] at CO hq2 hol
          simp only at CO hq2 hol
          obtain ⟨sg, hsg⟩ : ∃ z, z = bs g := ⟨_, rfl⟩
          obtain ⟨so, hso⟩ : ∃ z, z = bs o := ⟨_, rfl⟩
          rw [← hsg] at CG0
          have CGH := Lib.hid CG0
          have COH := Lib.hid (fun (w2 : World) (h1 : StAt w2 gs A c L a2) (h2 : RepX w2 S [.int .i64 yq.kind, .int .i64 yq.val.kind, .bool yq.val.bool, .int .i64 yq.val.int, .string yq.val.str, .slice laq yq.val.list.length lcq, .slice maq yq.val.map.length mcq, .string yq.name, .slice saq yq.steps.length scq, .slice aaq yq.args.length acq] yq) => show Calls Tryz.prog 33 #[.pointer (some ⟨gs, 0, none⟩), .agg #[.int .i64 yq.kind, .int .i64 yq.val.kind, .bool yq.val.bool, .int .i64 yq.val.int, .string yq.val.str, .slice laq yq.val.list.length lcq, .slice maq yq.val.map.length mcq, .string yq.name, .slice saq yq.steps.length scq, .slice aaq yq.args.length acq]] w2 (fun e w' => e = .returned (.string so) ∧ StAt w' gs A c L a3 ∧ Bar w2 w' gs) from by rw [hso]; exact CO w2 h1 h2)
          have HN := Lib.hid (show (tv ++ sg ++ so).data.toList ++ (argsW L (pipW L n) ((x.args.take x.args.length).drop (q + 1)) a3).1 = F.1 ∧ (argsW L (pipW L n) ((x.args.take x.args.length).drop (q + 1)) a3).2 = F.2 from ⟨by rw [← hq2.1, hsg, hso]; simp, hq2.2⟩)
          have HNS := Lib.hid (show a3 + 6 * (((x.args.take x.args.length).drop (q + 1)).map (wtX (d - 1))).sum + 2 ≤ 1000000000 from by omega)
          have hzz : tv.size + sg.size + so.size ≤ 1000000 := by have h9 := congrArg List.length hq2.1; simp only [List.length_append] at h9; have e1 := size_list tv; (have e2 : sg.size = g.length := by rw [hsg, bs_size]); (have e3 : so.size = o.length := by rw [hso, bs_size]); omega
          have hz3 : tv.size ≤ 1000000 := by omega
          have hz4 : tv.size + sg.size ≤ 1000000 := by omega
          have hnot1 : ¬ 9223372036854775807 < tv.size + sg.size := by omega
          have hnot2 : ¬ 9223372036854775807 < tv.size + sg.size + so.size := by omega
          have hbl2 : b2 < W1.heap.size := hcy2.lt
          have hcw2 : cellsAt wr b2 (bo2 + q * 10) [.int .i64 yq.kind, .int .i64 yq.val.kind, .bool yq.val.bool, .int .i64 yq.val.int, .string yq.val.str, .slice laq yq.val.list.length lcq, .slice maq yq.val.map.length mcq, .string yq.name, .slice saq yq.steps.length scq, .slice aaq yq.args.length acq] := hcy2.keep fun i => HQB.out.cell hbl2 (hS b2 hSb2)
          have hlwr : b2 < wr.heap.size := Nat.lt_of_lt_of_le hbl2 HQB.out.size
          have hneb : b2 ≠ gs := hS b2 hSb2
          have hn3r : n3 < wr.heap.size := Nat.lt_of_lt_of_le H0.out.lt HQB.out.size
          have HX0 := Lib.hid (HQB.out.blk H0.out hn3)
          have HSS := Lib.hid (show ∀ wx, Bar wr wx gs → (fun w' => (∀ i, w'.cell? ⟨n3, i, none⟩ = (#[.int .i64 x.kind, .int .i64 x.val.kind, .bool x.val.bool, .int .i64 x.val.int, .string x.val.str, .slice la x.val.list.length lc, .slice ma x.val.map.length mc, .string x.name, .slice sa x.steps.length sc, .slice (some ⟨b2, bo2, none⟩) x.args.length ac] : Array Value)[i]?) ∧ w'.cell? ⟨b2, bo2 + q * 10, none⟩ = some (.int .i64 yq.kind) ∧ w'.cell? ⟨b2, bo2 + q * 10 + 1, none⟩ = some (.int .i64 yq.val.kind) ∧ w'.cell? ⟨b2, bo2 + q * 10 + 2, none⟩ = some (.bool yq.val.bool) ∧ w'.cell? ⟨b2, bo2 + q * 10 + 3, none⟩ = some (.int .i64 yq.val.int) ∧ w'.cell? ⟨b2, bo2 + q * 10 + 4, none⟩ = some (.string yq.val.str) ∧ w'.cell? ⟨b2, bo2 + q * 10 + 5, none⟩ = some (.slice laq yq.val.list.length lcq) ∧ w'.cell? ⟨b2, bo2 + q * 10 + 6, none⟩ = some (.slice maq yq.val.map.length mcq) ∧ w'.cell? ⟨b2, bo2 + q * 10 + 7, none⟩ = some (.string yq.name) ∧ w'.cell? ⟨b2, bo2 + q * 10 + 8, none⟩ = some (.slice saq yq.steps.length scq) ∧ w'.cell? ⟨b2, bo2 + q * 10 + 9, none⟩ = some (.slice aaq yq.args.length acq)) wx from fun wx hx => ⟨(hx.blk HX0.out hn3).cell, (hx.cell (o := bo2 + q * 10) hlwr hneb).trans (hcw2 0 _ rfl), (hx.cell (o := bo2 + q * 10 + 1) hlwr hneb).trans (hcw2 1 _ rfl), (hx.cell (o := bo2 + q * 10 + 2) hlwr hneb).trans (hcw2 2 _ rfl), (hx.cell (o := bo2 + q * 10 + 3) hlwr hneb).trans (hcw2 3 _ rfl), (hx.cell (o := bo2 + q * 10 + 4) hlwr hneb).trans (hcw2 4 _ rfl), (hx.cell (o := bo2 + q * 10 + 5) hlwr hneb).trans (hcw2 5 _ rfl), (hx.cell (o := bo2 + q * 10 + 6) hlwr hneb).trans (hcw2 6 _ rfl), (hx.cell (o := bo2 + q * 10 + 7) hlwr hneb).trans (hcw2 7 _ rfl), (hx.cell (o := bo2 + q * 10 + 8) hlwr hneb).trans (hcw2 8 _ rfl), (hx.cell (o := bo2 + q * 10 + 9) hlwr hneb).trans (hcw2 9 _ rfl)⟩)
          have HXY3 := Lib.hid (hxy2.bar HQB.out hS)
          have hg0 : (0 : Int) ≤ (q : Int) := by omega
          have hg1 : (q : Int) < (x.args.length : Int) := by omega
          have hg2 : (q : Int) < ((x.args.length : Nat) : Int) := by omega
          have hwk2 : IntKind.i64.wrap ((q : Int) + 1) = (q : Int) + 1 := wrap_fit (by omega) (by omega)
          clear hcy2 hxy2 hy hmem hdr hsm hq2 hwy hwx hg ho hsg hso CO CG0 hcw2 HQ HQS
          go_upto_region 12 with fail
          refine wp_region_tail (S := (fun w' => (∀ i, w'.cell? ⟨n3, i, none⟩ = (#[.int .i64 x.kind, .int .i64 x.val.kind, .bool x.val.bool, .int .i64 x.val.int, .string x.val.str, .slice la x.val.list.length lc, .slice ma x.val.map.length mc, .string x.name, .slice sa x.steps.length sc, .slice (some ⟨b2, bo2, none⟩) x.args.length ac] : Array Value)[i]?) ∧ w'.cell? ⟨b2, bo2 + q * 10, none⟩ = some (.int .i64 yq.kind) ∧ w'.cell? ⟨b2, bo2 + q * 10 + 1, none⟩ = some (.int .i64 yq.val.kind) ∧ w'.cell? ⟨b2, bo2 + q * 10 + 2, none⟩ = some (.bool yq.val.bool) ∧ w'.cell? ⟨b2, bo2 + q * 10 + 3, none⟩ = some (.int .i64 yq.val.int) ∧ w'.cell? ⟨b2, bo2 + q * 10 + 4, none⟩ = some (.string yq.val.str) ∧ w'.cell? ⟨b2, bo2 + q * 10 + 5, none⟩ = some (.slice laq yq.val.list.length lcq) ∧ w'.cell? ⟨b2, bo2 + q * 10 + 6, none⟩ = some (.slice maq yq.val.map.length mcq) ∧ w'.cell? ⟨b2, bo2 + q * 10 + 7, none⟩ = some (.string yq.name) ∧ w'.cell? ⟨b2, bo2 + q * 10 + 8, none⟩ = some (.slice saq yq.steps.length scq) ∧ w'.cell? ⟨b2, bo2 + q * 10 + 9, none⟩ = some (.slice aaq yq.args.length acq))) 12 (by kernel_rfl) (by kernel_rfl) (by exact HSS.out _ (Bar.of (Below.drew (Below.refl _ _)))) (fun hHeld => ?_)
          simp only [List.dropLast]
          refine wpAnyH_take (i := 0) (v := ?vm7_0) (by conv => lhs; simp only [List.getElem?_toArray, List.getElem?_cons_succ, List.getElem?_cons_zero]) (by kernel_rfl) (by kernel_rfl) (by kernel_rfl) (by exact fun _ _ _ h => h) (Or.inl ⟨by rfl, ?hym7_0⟩) (by assumption) ?_
          case hym7_0 => (intro w0 hSw; (try dsimp only at hSw); go_simp; (try with_reducible rfl); (try assumption))
          try simp only [Act.put, List.setIfInBounds_toArray, List.set_cons_zero, List.set_cons_succ]
          refine wpAnyH_take (i := 1) (v := ?vm7_1) (by conv => lhs; simp only [List.getElem?_toArray, List.getElem?_cons_succ, List.getElem?_cons_zero]) (by kernel_rfl) (by kernel_rfl) (by kernel_rfl) (by exact fun _ _ _ h => h) (Or.inl ⟨by rfl, ?hym7_1⟩) (by assumption) ?_
          case hym7_1 => (intro w0 hSw; (try dsimp only at hSw); go_simp; (try with_reducible rfl); (try assumption))
          try simp only [Act.put, List.setIfInBounds_toArray, List.set_cons_zero, List.set_cons_succ]
          refine wpAnyH_take (i := 4) (v := ?vm7_4) (by conv => lhs; simp only [List.getElem?_toArray, List.getElem?_cons_succ, List.getElem?_cons_zero]) (by kernel_rfl) (by kernel_rfl) (by kernel_rfl) (by exact fun _ _ _ h => h) (Or.inl ⟨by rfl, ?hym7_4⟩) (by assumption) ?_
          case hym7_4 => (intro w0 hSw; (try dsimp only at hSw); go_simp; (try with_reducible rfl); (try assumption))
          try simp only [Act.put, List.setIfInBounds_toArray, List.set_cons_zero, List.set_cons_succ]
          refine wpAnyH_take (i := 5) (v := ?vm7_5) (by conv => lhs; simp only [List.getElem?_toArray, List.getElem?_cons_succ, List.getElem?_cons_zero]) (by kernel_rfl) (by kernel_rfl) (by kernel_rfl) (by exact fun _ _ _ h => h) (Or.inl ⟨by rfl, ?hym7_5⟩) (by assumption) ?_
          case hym7_5 => (intro w0 hSw; (try dsimp only at hSw); go_simp; (try with_reducible rfl); (try assumption))
          try simp only [Act.put, List.setIfInBounds_toArray, List.set_cons_zero, List.set_cons_succ]
          refine wpAnyH_take (i := 6) (v := ?vm7_6) (by conv => lhs; simp only [List.getElem?_toArray, List.getElem?_cons_succ, List.getElem?_cons_zero]) (by kernel_rfl) (by kernel_rfl) (by kernel_rfl) (by exact fun _ _ _ h => h) (Or.inl ⟨by rfl, ?hym7_6⟩) (by assumption) ?_
          case hym7_6 => (intro w0 hSw; (try dsimp only at hSw); go_simp; (try with_reducible rfl); (try assumption))
          try simp only [Act.put, List.setIfInBounds_toArray, List.set_cons_zero, List.set_cons_succ]
          refine wpAnyH_take (i := 7) (v := ?vm7_7) (by conv => lhs; simp only [List.getElem?_toArray, List.getElem?_cons_succ, List.getElem?_cons_zero]) (by kernel_rfl) (by kernel_rfl) (by kernel_rfl) (by exact fun _ _ _ h => h) (Or.inl ⟨by rfl, ?hym7_7⟩) (by assumption) ?_
          case hym7_7 => (intro w0 hSw; (try dsimp only at hSw); go_simp; (try with_reducible rfl); (try assumption))
          try simp only [Act.put, List.setIfInBounds_toArray, List.set_cons_zero, List.set_cons_succ]
          refine wpAnyH_take (i := 8) (v := ?vm7_8) (by conv => lhs; simp only [List.getElem?_toArray, List.getElem?_cons_succ, List.getElem?_cons_zero]) (by kernel_rfl) (by kernel_rfl) (by kernel_rfl) (by exact fun _ _ _ h => h) (Or.inl ⟨by rfl, ?hym7_8⟩) (by assumption) ?_
          case hym7_8 => (intro w0 hSw; (try dsimp only at hSw); go_simp; (try with_reducible rfl); (try assumption))
          try simp only [Act.put, List.setIfInBounds_toArray, List.set_cons_zero, List.set_cons_succ]
          refine wpAnyH_take (i := 9) (v := ?vm7_9) (by conv => lhs; simp only [List.getElem?_toArray, List.getElem?_cons_succ, List.getElem?_cons_zero]) (by kernel_rfl) (by kernel_rfl) (by kernel_rfl) (by exact fun _ _ _ h => h) (Or.inl ⟨by rfl, ?hym7_9⟩) (by assumption) ?_
          case hym7_9 => (intro w0 hSw; (try dsimp only at hSw); go_simp; (try with_reducible rfl); (try assumption))
          try simp only [Act.put, List.setIfInBounds_toArray, List.set_cons_zero, List.set_cons_succ]
          refine wpAnyH_ready (rs := [2]) (by kernel_rfl) (by simp) ?_
          refine AllReadyH.cons (by conv => lhs; simp only [List.getElem?_toArray, List.getElem?_cons_succ, List.getElem?_cons_zero]) (fun K hK => ?_) AllReadyH.nil
          go_simp
          refine CGH.out.mono ?_
          rintro e w8 ⟨rfl, hst8, hbar8⟩
          have HG8 := Lib.hid ((Bar.of (gc := gs) (Below.drew (Below.refl wr.heap.size wr))).trans hbar8); have HT8 := Lib.hid hst8
          clear hst8 hbar8
          go_wp2_with fail
          refine hK.out _ _ (by exact HSS.out _ HG8.out) (fun hHeld => ?_)
          clear hK K
          try simp only [Act.put, List.setIfInBounds_toArray, List.set_cons_zero, List.set_cons_succ]
          refine wpAnyH_take (i := 3) (v := ?vm8_3) (by conv => lhs; simp only [List.getElem?_toArray, List.getElem?_cons_succ, List.getElem?_cons_zero]) (by kernel_rfl) (by kernel_rfl) (by kernel_rfl) (by exact fun _ _ _ h => h) (Or.inl ⟨by rfl, ?hym8_3⟩) (by assumption) ?_
          case hym8_3 => (intro w0 hSw; (try dsimp only at hSw); go_simp; (try with_reducible rfl); (try assumption))
          try simp only [Act.put, List.setIfInBounds_toArray, List.set_cons_zero, List.set_cons_succ]
          refine wpAnyH_ready (rs := [10]) (by kernel_rfl) (by simp) ?_
          refine AllReadyH.cons (by conv => lhs; simp only [List.getElem?_toArray, List.getElem?_cons_succ, List.getElem?_cons_zero]) (fun K hK => ?_) AllReadyH.nil
          go_simp
          refine (COH.out _ HT8.out (HXY3.out.bar HG8.out hS)).mono ?_
          rintro e w9 ⟨rfl, hst9, hbar9⟩
          have HG9 := Lib.hid (HG8.out.trans hbar9); have HT9 := Lib.hid hst9
          clear hst9 hbar9
          go_wp2_with fail
          refine hK.out _ _ (by exact HSS.out _ HG9.out) (fun hHeld => ?_)
          clear hK K
          try simp only [Act.put, List.setIfInBounds_toArray, List.set_cons_zero, List.set_cons_succ]
          refine wpAnyH_take (i := 11) (v := ?vm9_11) (by conv => lhs; simp only [List.getElem?_toArray, List.getElem?_cons_succ, List.getElem?_cons_zero]) (by kernel_rfl) (by kernel_rfl) (by kernel_rfl) (by exact fun _ _ _ h => h) (Or.inl ⟨by rfl, ?hym9_11⟩) (by assumption) ?_
          case hym9_11 => (intro w0 hSw; (try dsimp only at hSw); go_simp; (try with_reducible rfl); (try assumption))
          try simp only [Act.put, List.setIfInBounds_toArray, List.set_cons_zero, List.set_cons_succ]
          refine wpAnyH_done (by kernel_rfl) ?_ _
          refine LastQ.step (by conv => lhs; simp only [List.getElem?_toArray, List.getElem?_cons_succ, List.getElem?_cons_zero]) (fun K hK => ?_)
          go_simp
          refine hK.out _ _ ?_
          clear hK K
          try simp only [Act.put, List.setIfInBounds_toArray, List.set_cons_zero, List.set_cons_succ]
          go_wp2_with fail
          go_roundw
          case rel => exact ⟨q + 1, _, a3, by omega, by go_num, rfl, HN, HNS, HT9, Lib.hid (HQB.out.trans HG9.out)⟩
          case measure => simp [Lib.intOf]; omega
        · obtain rfl : q = x.args.length := by omega
          have HE := Lib.hid (show F = (tv.data.toList, aq) from by have h9 := HQ.out; rw [List.drop_eq_nil_of_le (by rw [List.length_take]; omega)] at h9; have h8 := h9.1; unfold argsW at h8; rw [List.append_nil] at h8; exact (Prod.ext (show tv.data.toList = F.1 from h8) (show aq = F.2 from h9.2)).symm)
          clear hlt
          go_wp2_with fail
          go_ret
          exact ⟨by rw [HE.out]; rfl, by rw [HE.out]; exact HQT.out, HB.out.trans HQB.out⟩
/-- A pipe, written. -/
theorem wpipe_all (n : Nat) : PiR gs A c L n := by
  induction n with
  | zero => intro d x a W S cs hR hn; omega
  | succ n ih =>
    intro d x a W S cs hR hn h hx hS hz hz2
    by_cases hk : x.kind = 3
    · exact pi_call (op_all ih) ih hR hn hk h hx hS hz hz2
    · have e : pipW L (n + 1) x a = opW L (pipW L n) x a := by rw [pipW, if_pos hk]
      rw [e]
      exact pi_low hR hk h hx hz2
end
end Go.Proofs.YtnblmhfgmehnnaaGreatDoor

/- The reference's Same: whether two values are one. -/
namespace Go.Proofs.YtnblmhfgmehnnaaGreatDoor
open Go.RowKit
attribute [local go_sem ↓] Go.wp_at_zero Go.wp_at_succ

def SamePost (w : World) (p : Prop) (e : Ending) (w' : World) : Prop := ∃ r : Bool, e = .returned (.bool r) ∧ (r = true ↔ p) ∧ Below w.heap.size w w'
def SameOk (a : T) : Prop := ∀ (b : T) (w : World) (S S' : Nat → Prop) (v v' : Value), RepT w S v a → RepT w S' v' b → Calls Tryz.prog 36 #[v, v'] w (SamePost w (a = b))
theorem T.eq_iff (a b : T) : a = b ↔ a.kind = b.kind ∧ a.bool = b.bool ∧ a.int = b.int ∧ a.str = b.str ∧ a.list = b.list ∧ a.map = b.map := by
  cases a; cases b; simp [T.kind, T.bool, T.int, T.str, T.list, T.map]
theorem SamePost.no {w w' : World} {p : Prop} (hp : ¬ p) (hb : Below w.heap.size w w') : SamePost w p (.returned (.bool false)) w' := ⟨false, rfl, by simp [hp], hb⟩
theorem SamePost.yes {w w' : World} {p : Prop} (hp : p) (hb : Below w.heap.size w w') : SamePost w p (.returned (.bool true)) w' := ⟨true, rfl, by simp [hp], hb⟩

set_option maxRecDepth 100000 in
set_option maxHeartbeats 4000000 in
theorem rsame (a : T) : SameOk a := by
  have hnot : ∀ (x : Bool) (w : World), (Op.unary .not (.bool x)).run Tryz.prog w = .ok (.bool (!x)) w := fun _ _ => rfl
  induction a using T.ind' with
  | h a ihl ihm =>
  intro b w S S' v v' h h'
  obtain ⟨la, lc, ma, mc, rfl, hp⟩ := h.inv
  obtain ⟨-, -, -, hl, hm, -, -, -, -, hL, hM⟩ := hp
  obtain ⟨lb, ld, mb, md, rfl, hp'⟩ := h'.inv
  obtain ⟨-, -, -, hl', hm', -, -, -, -, hL', hM'⟩ := hp'
  have HEQ := Lib.hid (T.eq_iff a b)
  clear h h'
  generalize a.kind = k1 at *
  generalize a.bool = b1 at *
  generalize a.int = n1 at *
  generalize a.str = s1 at *
  generalize a.list = l1 at *
  generalize a.map = m1 at *
  generalize b.kind = k2 at *
  generalize b.bool = b2 at *
  generalize b.int = n2 at *
  generalize b.str = s2 at *
  generalize b.list = l2 at *
  generalize b.map = m2 at *
  have hbx : Below w.heap.size w ((w.alloc (.cells #[.int .i64 k1, .bool b1, .int .i64 n1, .string s1, .slice la l1.length lc, .slice ma m1.length mc] 41)).alloc (.cells #[.int .i64 k2, .bool b2, .int .i64 n2, .string s2, .slice lb l2.length ld, .slice mb m2.length md] 41)) := (Below.new _ _).alloc (by simp) _
  by_cases hd : k1 ≠ k2
  · have HN : Hid (¬ (a = b)) := fun e => by have := HEQ.out.1 e; exact hd this.1
    clear HEQ
    have g : (k1 != k2) = true := bne_iff_ne.2 hd
    clear hd
    go_enter Tryz.func36, Tryz.ntmps36
    go_wp2_with fail
    go_ret
    exact SamePost.no HN.out hbx
  have hd := Classical.not_not.1 hd
  subst hd
  by_cases hd : b1 ≠ b2
  · have HN : Hid (¬ (a = b)) := fun e => by have := HEQ.out.1 e; exact hd this.2.1
    clear HEQ
    have g : (b1 != b2) = true := bne_iff_ne.2 hd
    have g2 : (b1 == b2) = false := beq_eq_false_iff_ne.2 hd
    clear hd
    go_enter Tryz.func36, Tryz.ntmps36
    go_wp2_with fail
    go_ret
    exact SamePost.no HN.out hbx
  have hd := Classical.not_not.1 hd
  subst hd
  by_cases hd : n1 ≠ n2
  · have HN : Hid (¬ (a = b)) := fun e => by have := HEQ.out.1 e; exact hd this.2.2.1
    clear HEQ
    have g : (n1 != n2) = true := bne_iff_ne.2 hd
    clear hd
    go_enter Tryz.func36, Tryz.ntmps36
    go_wp2_with fail
    go_ret
    exact SamePost.no HN.out hbx
  have hd := Classical.not_not.1 hd
  subst hd
  by_cases hd : s1 ≠ s2
  · have HN : Hid (¬ (a = b)) := fun e => by have := HEQ.out.1 e; exact hd this.2.2.2.1
    clear HEQ
    have g : (s1.toList == s2.toList) = false := by rw [keq_iff]; simpa using hd
    clear hd
    go_enter Tryz.func36, Tryz.ntmps36
    go_wp2_with fail
    go_ret
    exact SamePost.no HN.out hbx
  have hd := Classical.not_not.1 hd
  subst hd
  by_cases hd : l1.length ≠ l2.length
  · have HN : Hid (¬ (a = b)) := fun e => by have := HEQ.out.1 e; exact hd (by rw [this.2.2.2.2.1])
    clear HEQ
    have g : ((l1.length : Int) != (l2.length : Int)) = true := by rw [bne_iff_ne]; omega
    have g2 : (l1.length != l2.length) = true := bne_iff_ne.2 hd
    clear hd
    go_enter Tryz.func36, Tryz.ntmps36
    go_wp2_with fail
    go_ret
    exact SamePost.no HN.out hbx
  have hll := Classical.not_not.1 hd
  have HLL := Lib.hid hll
  have g1 : ((l1.length : Int) != (l2.length : Int)) = false := by simp [hll]
  have g1' : (l1.length != l2.length) = false := by simp [hll]
  clear hd hll
  by_cases hd : m1.length ≠ m2.length
  · have HN : Hid (¬ (a = b)) := fun e => by have := HEQ.out.1 e; exact hd (by rw [this.2.2.2.2.2])
    clear HEQ
    have g : ((m1.length : Int) != (m2.length : Int)) = true := by rw [bne_iff_ne]; omega
    have g2 : (m1.length != m2.length) = true := bne_iff_ne.2 hd
    clear hd
    go_enter Tryz.func36, Tryz.ntmps36
    go_wp2_with fail
    go_ret
    exact SamePost.no HN.out hbx
  have hmm := Classical.not_not.1 hd
  have HMM := Lib.hid hmm
  have g2 : ((m1.length : Int) != (m2.length : Int)) = false := by simp [hmm]
  have g2' : (m1.length != m2.length) = false := by simp [hmm]
  clear hd hmm
  go_enter Tryz.func36, Tryz.ntmps36
  go_wp2_with fail
  go_loopw [5] (fun i wr => ∃ q : Nat, q ≤ l1.length ∧ i = .int .i64 q ∧ Hid (∀ j (hj : j < l1.length) (hj' : j < l2.length), j < q → l1[j] = l2[j]) ∧ Below w.heap.size w wr ∧ Blk wr w.heap.size 41 #[.int .i64 k1, .bool b1, .int .i64 n1, .string s1, .slice la l1.length lc, .slice ma m1.length mc] ∧ Blk wr (w.heap.size + 1) 41 #[.int .i64 k1, .bool b1, .int .i64 n1, .string s1, .slice lb l2.length ld, .slice mb m2.length md]) (fun i _ => l1.length - (intOf i).toNat)
  case atStart => exact ⟨0, Nat.zero_le _, rfl, fun j _ _ h => by omega, hbx, (Blk.new _ _ _).alloc _, Blk.new_at _ _ _ (by simp)⟩
  case round =>
    clear g1 g1' g2 g2' hbx
    obtain ⟨j, hj, rfl, hall, hbw, hx1, hx2⟩ := hrel
    have b4 : wr.cell? ⟨w.heap.size, 4, none⟩ = some (.slice la l1.length lc) := hx1.cell 4
    have b5 : wr.cell? ⟨w.heap.size, 5, none⟩ = some (.slice ma m1.length mc) := hx1.cell 5
    have d4 : wr.cell? ⟨w.heap.size + 1, 4, none⟩ = some (.slice lb l2.length ld) := hx2.cell 4
    have d5 : wr.cell? ⟨w.heap.size + 1, 5, none⟩ = some (.slice mb m2.length md) := hx2.cell 5
    by_cases hlt : j < l1.length
    · have hlt2 : j < l2.length := by have := HLL.out; omega
      obtain ⟨bl, ol, la', lc', ma', mc', rfl, -, hbl0, ⟨c0, c1, c2, c3, c4, c5⟩, hr⟩ := (hL.keep hbw).at_ hlt
      obtain ⟨bk, ok, lb', ld', mb', md', rfl, -, hbk0, ⟨e0, e1, e2, e3, e4, e5⟩, hr'⟩ := (hL'.keep hbw).at_ hlt2
      have HIH := Lib.hid (fun w v v' h h' => ihl _ (List.getElem_mem hlt) (l2[j]'hlt2) w S S' v v' h h')
      have HSTEP : Hid (l1[j] = l2[j] → ∀ i (hi : i < l1.length) (hi' : i < l2.length), i < j + 1 → l1[i] = l2[i]) := fun he i hi hi' h => by
        rcases Nat.lt_or_ge i j with h2 | h2
        · exact hall.out i hi hi' h2
        · obtain rfl : i = j := by omega
          exact he
      have HNO : Hid (¬ l1[j] = l2[j] → ¬ a = b) := fun he e => he (by
        have e2 := (HEQ.out.1 e).2.2.2.2.1
        subst e2; rfl)
      generalize l1[j] = x at *
      generalize l2[j] = y at *
      have HR := Lib.hid hr
      have HR' := Lib.hid hr'
      have hi1 : (0 : Int) ≤ (j : Int) := by omega
      have hi2 : (j : Int) < (l1.length : Int) := by omega
      have hi3 : (j : Int) < (l2.length : Int) := by omega
      clear hr hr'
      go_wp2_with fail
      go_region_held3 (fun w' => w'.cell? ⟨w.heap.size, 4, none⟩ = some (.slice (some ⟨bl, ol, none⟩) l1.length lc) ∧ w'.cell? ⟨w.heap.size + 1, 4, none⟩ = some (.slice (some ⟨bk, ok, none⟩) l2.length ld) ∧ w'.cell? ⟨bl, ol + j * 6, none⟩ = some (.int .i64 x.kind) ∧ w'.cell? ⟨bl, ol + j * 6 + 1, none⟩ = some (.bool x.bool) ∧ w'.cell? ⟨bl, ol + j * 6 + 2, none⟩ = some (.int .i64 x.int) ∧ w'.cell? ⟨bl, ol + j * 6 + 3, none⟩ = some (.string x.str) ∧ w'.cell? ⟨bl, ol + j * 6 + 4, none⟩ = some (.slice la' x.list.length lc') ∧ w'.cell? ⟨bl, ol + j * 6 + 5, none⟩ = some (.slice ma' x.map.length mc') ∧ w'.cell? ⟨bk, ok + j * 6, none⟩ = some (.int .i64 y.kind) ∧ w'.cell? ⟨bk, ok + j * 6 + 1, none⟩ = some (.bool y.bool) ∧ w'.cell? ⟨bk, ok + j * 6 + 2, none⟩ = some (.int .i64 y.int) ∧ w'.cell? ⟨bk, ok + j * 6 + 3, none⟩ = some (.string y.str) ∧ w'.cell? ⟨bk, ok + j * 6 + 4, none⟩ = some (.slice lb' y.list.length ld') ∧ w'.cell? ⟨bk, ok + j * 6 + 5, none⟩ = some (.slice mb' y.map.length md')) (go_keep)
        (first | (go_at_call 36; refine (HIH.out _ _ _ (HR.out.keep (by exact Below.drew (Below.refl _ _))) (HR'.out.keep (by exact Below.drew (Below.refl _ _)))).mono ?_; rintro e w1 ⟨r, rfl, hr, hb1⟩; have hcb := (bcell (Below.next (Below.drew (Below.refl wr.heap.size wr)) hb1)).1;  have u0 := (hcb _ _ hbl0).trans c0; have v0 := (hcb _ _ hbk0).trans e0; have u1 := (hcb _ _ hbl0).trans c1; have v1 := (hcb _ _ hbk0).trans e1; have u2 := (hcb _ _ hbl0).trans c2; have v2 := (hcb _ _ hbk0).trans e2; have u3 := (hcb _ _ hbl0).trans c3; have v3 := (hcb _ _ hbk0).trans e3; have u4 := (hcb _ _ hbl0).trans c4; have v4 := (hcb _ _ hbk0).trans e4; have u5 := (hcb _ _ hbl0).trans c5; have v5 := (hcb _ _ hbk0).trans e5; have u7 := (hcb _ _ hx1.lt).trans b4; have u8 := (hcb _ _ hx2.lt).trans d4; have HB1 := Lib.hid hb1; have HRR := Lib.hid hr; clear hb1 hr hcb))
      have hb2 := Below.next (Below.drew (Below.refl wr.heap.size wr)) HB1.out
      clear u0 u1 u2 u3 u4 u5 v0 v1 v2 v3 v4 v5 u7 u8
      cases r with
      | true =>
        have HE := Lib.hid (HSTEP.out (HRR.out.1 rfl))
        go_wp2_with fail
        go_roundw
        case rel => exact ⟨j + 1, by omega, by go_num, HE, Below.next hbw hb2, hx1.keep hb2, hx2.keep hb2⟩
        case measure => simp [intOf]; omega
      | false =>
        have HN := Lib.hid (HNO.out (fun e => by have := HRR.out.2 e; cases this))
        go_wp2_with fail
        go_ret
        exact SamePost.no HN.out (Below.next hbw hb2)
    · have HLE : Hid (l1 = l2) := List.ext_getElem HLL.out fun i hi hi' => hall.out i hi hi' (by omega)
      clear hall
      go_wp2_with fail
      go_loopw [6] (fun i wr => ∃ q : Nat, q ≤ m1.length ∧ i = .int .i64 q ∧ Hid (∀ j (hj : j < m1.length) (hj' : j < m2.length), j < q → m1[j] = m2[j]) ∧ Below w.heap.size w wr ∧ Blk wr w.heap.size 41 #[.int .i64 k1, .bool b1, .int .i64 n1, .string s1, .slice la l1.length lc, .slice ma m1.length mc] ∧ Blk wr (w.heap.size + 1) 41 #[.int .i64 k1, .bool b1, .int .i64 n1, .string s1, .slice lb l2.length ld, .slice mb m2.length md]) (fun i _ => m1.length - (intOf i).toNat)
      case atStart => exact ⟨0, Nat.zero_le _, rfl, fun j _ _ h => by omega, hbw, hx1, hx2⟩
      case round =>
        clear hbw hx1 hx2 b4 d4 b5 d5 hlt hj
        obtain ⟨j, hj, rfl, hall, hbw, hx1, hx2⟩ := hrel
        have b5 : wr.cell? ⟨w.heap.size, 5, none⟩ = some (.slice ma m1.length mc) := hx1.cell 5
        have d5 : wr.cell? ⟨w.heap.size + 1, 5, none⟩ = some (.slice mb m2.length md) := hx2.cell 5
        by_cases hlt : j < m1.length
        · have hlt2 : j < m2.length := by have := HMM.out; omega
          obtain ⟨bl, ol, la', lc', ma', mc', rfl, -, hbl0, -, ⟨c0, c1, c2, c3, c4, c5, c6⟩, hr⟩ := (hM.keep hbw).at_ hlt
          obtain ⟨bk, ok, lb', ld', mb', md', rfl, -, hbk0, -, ⟨e0, e1, e2, e3, e4, e5, e6⟩, hr'⟩ := (hM'.keep hbw).at_ hlt2
          have HIH := Lib.hid (fun w v v' h h' => ihm _ (List.getElem_mem hlt) (m2[j]'hlt2).2 w S S' v v' h h')
          have HSTEP : Hid (m1[j] = m2[j] → ∀ i (hi : i < m1.length) (hi' : i < m2.length), i < j + 1 → m1[i] = m2[i]) := fun he i hi hi' h => by
            rcases Nat.lt_or_ge i j with h2 | h2
            · exact hall.out i hi hi' h2
            · obtain rfl : i = j := by omega
              exact he
          have HNO : Hid (¬ m1[j] = m2[j] → ¬ a = b) := fun he e => he (by
            have e2 := (HEQ.out.1 e).2.2.2.2.2
            subst e2; rfl)
          generalize m1[j] = px at *
          generalize m2[j] = py at *
          obtain ⟨p1, x⟩ := px
          obtain ⟨p2, y⟩ := py
          simp only at *
          have HR := Lib.hid hr
          have HR' := Lib.hid hr'
          have hi1 : (0 : Int) ≤ (j : Int) := by omega
          have hi2 : (j : Int) < (m1.length : Int) := by omega
          have hi3 : (j : Int) < (m2.length : Int) := by omega
          clear hr hr'
          by_cases hk : p1 = p2
          · subst hk
            go_wp2_with fail
            go_region_held3 (fun w' => w'.cell? ⟨w.heap.size, 5, none⟩ = some (.slice (some ⟨bl, ol, none⟩) m1.length mc) ∧ w'.cell? ⟨w.heap.size + 1, 5, none⟩ = some (.slice (some ⟨bk, ok, none⟩) m2.length md) ∧ w'.cell? ⟨bl, ol + j * 7, none⟩ = some (.string p1) ∧ w'.cell? ⟨bk, ok + j * 7, none⟩ = some (.string p1) ∧ w'.cell? ⟨bl, ol + j * 7 + 1, none⟩ = some (.int .i64 x.kind) ∧ w'.cell? ⟨bl, ol + j * 7 + 2, none⟩ = some (.bool x.bool) ∧ w'.cell? ⟨bl, ol + j * 7 + 3, none⟩ = some (.int .i64 x.int) ∧ w'.cell? ⟨bl, ol + j * 7 + 4, none⟩ = some (.string x.str) ∧ w'.cell? ⟨bl, ol + j * 7 + 5, none⟩ = some (.slice la' x.list.length lc') ∧ w'.cell? ⟨bl, ol + j * 7 + 6, none⟩ = some (.slice ma' x.map.length mc') ∧ w'.cell? ⟨bk, ok + j * 7 + 1, none⟩ = some (.int .i64 y.kind) ∧ w'.cell? ⟨bk, ok + j * 7 + 2, none⟩ = some (.bool y.bool) ∧ w'.cell? ⟨bk, ok + j * 7 + 3, none⟩ = some (.int .i64 y.int) ∧ w'.cell? ⟨bk, ok + j * 7 + 4, none⟩ = some (.string y.str) ∧ w'.cell? ⟨bk, ok + j * 7 + 5, none⟩ = some (.slice lb' y.list.length ld') ∧ w'.cell? ⟨bk, ok + j * 7 + 6, none⟩ = some (.slice mb' y.map.length md')) (go_keep)
              (first | (go_at_call 36; refine (HIH.out _ _ _ (HR.out.keep (by exact Below.drew (Below.refl _ _))) (HR'.out.keep (by exact Below.drew (Below.refl _ _)))).mono ?_; rintro e w1 ⟨r, rfl, hr, hb1⟩; have hcb := (bcell (Below.next (Below.drew (Below.refl wr.heap.size wr)) hb1)).1; have u0 := (hcb _ _ hbl0).trans c0; have v0 := (hcb _ _ hbk0).trans e0; have u1 := (hcb _ _ hbl0).trans c1; have v1 := (hcb _ _ hbk0).trans e1; have u2 := (hcb _ _ hbl0).trans c2; have v2 := (hcb _ _ hbk0).trans e2; have u3 := (hcb _ _ hbl0).trans c3; have v3 := (hcb _ _ hbk0).trans e3; have u4 := (hcb _ _ hbl0).trans c4; have v4 := (hcb _ _ hbk0).trans e4; have u5 := (hcb _ _ hbl0).trans c5; have v5 := (hcb _ _ hbk0).trans e5; have u6 := (hcb _ _ hbl0).trans c6; have v6 := (hcb _ _ hbk0).trans e6; have u7 := (hcb _ _ hx1.lt).trans b5; have u8 := (hcb _ _ hx2.lt).trans d5; have HB1 := Lib.hid hb1; have HRR := Lib.hid hr; clear hb1 hr hcb))
            have hb2 := Below.next (Below.drew (Below.refl wr.heap.size wr)) HB1.out
            clear u0 u1 u2 u3 u4 u5 u6 v0 v1 v2 v3 v4 v5 v6 u7 u8
            cases r with
            | true =>
              have HE := Lib.hid (HSTEP.out (by rw [HRR.out.1 rfl]))
              go_wp2_with fail
              go_roundw
              case rel => exact ⟨j + 1, by omega, by go_num, HE, Below.next hbw hb2, hx1.keep hb2, hx2.keep hb2⟩
              case measure => simp [intOf]; omega
            | false =>
              have HN := Lib.hid (HNO.out (fun e => by have := HRR.out.2 (by injection e); cases this))
              go_wp2_with fail
              go_ret
              exact SamePost.no HN.out (Below.next hbw hb2)
          · have HN := Lib.hid (HNO.out (fun e => hk (by injection e)))
            have gk : (p1.toList == p2.toList) = false := by rw [keq_iff]; simpa using hk
            clear hk
            go_wp2_with fail
            go_quiet (fail)
            go_wp2_with fail
            go_ret
            exact SamePost.no HN.out (Below.drewN hbw _)
        · have HME : Hid (a = b) := HEQ.out.2 ⟨by trivial, by trivial, by trivial, by trivial, HLE.out, List.ext_getElem HMM.out fun i hi hi' => hall.out i hi hi' (by omega)⟩
          clear hall
          go_wp2_with fail
          go_ret
          exact SamePost.yes HME.out hbw
end Go.Proofs.YtnblmhfgmehnnaaGreatDoor

/- parse's laws: expressions that read alike are the same. -/
namespace Go.Proofs.YtnblmhfgmehnnaaGreatDoor
open Go.RowKit Go.Lib
attribute [local go_sem ↓] Go.wp_at_zero Go.wp_at_succ

theorem same_self (t : T) (w : World) (S S' : Nat → Prop) (v v' : Value) (h : RepT w S v t) (h' : RepT w S' v' t) : Calls Tryz.prog 36 #[v, v'] w fun e w' => e = .returned (.bool true) ∧ Below w.heap.size w w' :=
  (rsame t t w S S' v v' h h').mono fun e w' ⟨r, h1, h2, h3⟩ => ⟨by rw [h1, h2.2 rfl], h3⟩

set_option maxRecDepth 100000 in
set_option maxHeartbeats 16000000 in
theorem texpr {w : World} {S : Nat → Prop} {cs : List Value} {x : Ex} (h : RepX w S cs x) : ∀ (W : World) (S2 : Nat → Prop) (cs2 : List Value), Below w.heap.size w W → RepX W S2 cs2 x → Calls Tryz.prog 19 #[.agg (List.toArray cs), .agg (List.toArray cs2)] W fun e w' => e = .returned (.bool true) ∧ Below W.heap.size W w' := by
  induction h with
  | mk k v nm st ar la lc ma mc sa sc aa ac C hk hv hn hs hsr har ha hr ih =>
  intro W S2 cs2 hW hx2
  obtain ⟨la2, lc2, ma2, mc2, sa2, sc2, aa2, ac2, rfl, hp2⟩ := hx2.inv
  show Calls Tryz.prog 19 #[.agg #[.int .i64 k, .int .i64 v.kind, .bool v.bool, .int .i64 v.int, .string v.str, .slice la v.list.length lc, .slice ma v.map.length mc, .string nm, .slice sa st.length sc, .slice aa ar.length ac], .agg #[.int .i64 k, .int .i64 v.kind, .bool v.bool, .int .i64 v.int, .string v.str, .slice la2 v.list.length lc2, .slice ma2 v.map.length mc2, .string nm, .slice sa2 st.length sc2, .slice aa2 ar.length ac2]] W _
  have hwW := hW.size
  have HV := Lib.hid (show RepT W S (.agg #[.int .i64 v.kind, .bool v.bool, .int .i64 v.int, .string v.str, .slice la v.list.length lc, .slice ma v.map.length mc]) v from hv.mono (fun b hb _ => hb) (fun b o hb hlt => hW.cell hlt))
  have HV2 := Lib.hid (show RepT W S2 (.agg #[.int .i64 v.kind, .bool v.bool, .int .i64 v.int, .string v.str, .slice la2 v.list.length lc2, .slice ma2 v.map.length mc2]) v from hp2.val)
  have HS := Lib.hid (show RepS W S sa st from hs.mono (fun b hb _ => hb) (fun b o hb hlt => hW.cell hlt))
  have HS2 := Lib.hid (show RepS W S2 sa2 st from hp2.steps)
  have HA := Lib.hid (fun i (hi : i < ar.length) => show ∃ b o, aa = some ⟨b, o, none⟩ ∧ b < W.heap.size ∧ cellsAt W b (o + i * 10) (C i) from by
    obtain ⟨b, o, e, hb, hc⟩ := ha i hi
    have hlt : b < w.heap.size := by have hl := (hr i hi).len; generalize C i = cs at hc hl; cases cs with | nil => simp at hl | cons c cs => exact hc.lt
    exact ⟨b, o, e, by omega, hc.keep fun i => hW.cell hlt⟩)
  have HA2 := Lib.hid (fun i (hi : i < ar.length) => show ∃ b o cs, aa2 = some ⟨b, o, none⟩ ∧ b < W.heap.size ∧ cellsAt W b (o + i * 10) cs ∧ RepX W S2 cs ar[i] from by
    obtain ⟨b, o, cs, e, hb, hc, hx⟩ := hp2.args i hi
    exact ⟨b, o, cs, e, by have hl := hx.len; cases cs with | nil => simp at hl | cons c cs => exact hc.lt, hc, hx⟩)
  have HR := Lib.hid (fun i (hi : i < ar.length) => (hr i hi).inv)
  have HIH := Lib.hid ih
  have hn1 := har.2.2; have hn2 := hsr.2.2
  have HW := Lib.hid hW
  clear hk hv hn hs hsr har ha hr ih hW hx2 hp2
  have hb1 := Below.new W (.cells #[.int .i64 k, .int .i64 v.kind, .bool v.bool, .int .i64 v.int, .string v.str, .slice la v.list.length lc, .slice ma v.map.length mc, .string nm, .slice sa st.length sc, .slice aa ar.length ac] 50)
  have h1 := Blk.new W 50 #[.int .i64 k, .int .i64 v.kind, .bool v.bool, .int .i64 v.int, .string v.str, .slice la v.list.length lc, .slice ma v.map.length mc, .string nm, .slice sa st.length sc, .slice aa ar.length ac]
  obtain ⟨W1, e1⟩ : ∃ z, z = W.alloc (.cells #[.int .i64 k, .int .i64 v.kind, .bool v.bool, .int .i64 v.int, .string v.str, .slice la v.list.length lc, .slice ma v.map.length mc, .string nm, .slice sa st.length sc, .slice aa ar.length ac] 50) := ⟨_, rfl⟩
  have z1 : W1.heap.size = W.heap.size + 1 := by rw [e1]; simp
  rw [← e1] at hb1 h1
  have hb2 := Below.new W1 (.cells #[.int .i64 k, .int .i64 v.kind, .bool v.bool, .int .i64 v.int, .string v.str, .slice la2 v.list.length lc2, .slice ma2 v.map.length mc2, .string nm, .slice sa2 st.length sc2, .slice aa2 ar.length ac2] 45)
  have h2 := Blk.new W1 45 #[.int .i64 k, .int .i64 v.kind, .bool v.bool, .int .i64 v.int, .string v.str, .slice la2 v.list.length lc2, .slice ma2 v.map.length mc2, .string nm, .slice sa2 st.length sc2, .slice aa2 ar.length ac2]
  obtain ⟨W2, e2⟩ : ∃ z, z = W1.alloc (.cells #[.int .i64 k, .int .i64 v.kind, .bool v.bool, .int .i64 v.int, .string v.str, .slice la2 v.list.length lc2, .slice ma2 v.map.length mc2, .string nm, .slice sa2 st.length sc2, .slice aa2 ar.length ac2] 45) := ⟨_, rfl⟩
  rw [← e2] at hb2 h2
  obtain ⟨n1, en1⟩ : ∃ z, z = W.heap.size := ⟨_, rfl⟩
  obtain ⟨n2, en2⟩ : ∃ z, z = W1.heap.size := ⟨_, rfl⟩
  have HB2 := Lib.hid (Below.next hb1 hb2)
  have H1 := Lib.hid (h1.keep hb2); have H2 := Lib.hid h2
  rw [← en1] at H1
  rw [← en2] at H2
  have hn12 : n1 + 1 = n2 := by omega
  have E1 := Lib.hid e1; have E2 := Lib.hid e2; have N1 := Lib.hid en1; have HN12 := Lib.hid hn12
  have hl12 : n1 < n2 := by omega
  clear h1 h2 hb1 hb2 e1 e2 z1 en1 en2 hn12
  have CS := Lib.hid (fun (W' : World) (hb : Below W.heap.size W W') => same_self v W' S S2 _ _ (HV.out.keep hb) (HV2.out.keep hb))
  go_enter Tryz.func19, Tryz.ntmps19
  go_upto_region 1 with fail
  rw [← E1.out, ← E2.out, ← N1.out, HN12.out]
  have k1 := H1.out.cell; have f1 := H1.out.frozen; have l1 := H1.out.lt; have k2 := H2.out.cell; have f2 := H2.out.frozen; have l2 := H2.out.lt
  go_wp2_with fail
  refine (CS.out _ HB2.out).mono ?_
  rintro e w3 ⟨rfl, hb3⟩
  have HB3 := Lib.hid (Below.next HB2.out hb3); have H13 := Lib.hid (H1.out.keep hb3); have H23 := Lib.hid (H2.out.keep hb3)
  clear hb3 k1 f1 l1 k2 f2 l2
  have k1 := H13.out.cell; have f1 := H13.out.frozen; have l1 := H13.out.lt; have k2 := H23.out.cell; have f2 := H23.out.frozen; have l2 := H23.out.lt
  go_wp2_with fail
  have hq0 : True := trivial
  go_loopw [48] (fun x48 wr => ∃ q : Nat, q ≤ st.length ∧ x48 = .int .i64 q ∧ Hid (Below W.heap.size W wr) ∧ Hid (Blk wr n1 50 #[.int .i64 k, .int .i64 v.kind, .bool v.bool, .int .i64 v.int, .string v.str, .slice la v.list.length lc, .slice ma v.map.length mc, .string nm, .slice sa st.length sc, .slice aa ar.length ac]) ∧ Hid (Blk wr n2 45 #[.int .i64 k, .int .i64 v.kind, .bool v.bool, .int .i64 v.int, .string v.str, .slice la2 v.list.length lc2, .slice ma2 v.map.length mc2, .string nm, .slice sa2 st.length sc2, .slice aa2 ar.length ac2])) (fun x _ => st.length - (Lib.intOf x).toNat)
  case atStart => exact ⟨0, Nat.zero_le _, rfl, HB3, H13, H23⟩
  case round =>
    obtain ⟨q, hq, rfl, HBQ, HQ1, HQ2⟩ := hrel
    clear k1 f1 l1 k2 f2 l2
    by_cases hlt : q < st.length
    · obtain ⟨b, bo, rfl, -, hbl, hc, -⟩ := HS.out q hlt
      obtain ⟨b2, bo2, rfl, -, hbl2, hc2, -⟩ := HS2.out q hlt
      have hcw : wr.cell? ⟨b, bo + q, none⟩ = some (.string st[q]) := (HBQ.out.cell (p := ⟨b, bo + q, none⟩) hbl).trans hc
      have hcw2 : wr.cell? ⟨b2, bo2 + q, none⟩ = some (.string st[q]) := (HBQ.out.cell (p := ⟨b2, bo2 + q, none⟩) hbl2).trans hc2
      have hg0 : (0 : Int) ≤ (q : Int) := by omega
      have hg1 : (q : Int) < (st.length : Int) := by omega
      have hwk : IntKind.i64.wrap ((q : Int) + 1) = (q : Int) + 1 := wrap_fit (by omega) (by omega)
      generalize st[q] = sq at hcw hcw2
      have k1 := HQ1.out.cell; have f1 := HQ1.out.frozen; have l1 := HQ1.out.lt; have k2 := HQ2.out.cell; have f2 := HQ2.out.frozen; have l2 := HQ2.out.lt
      have hs1 := HBQ.out.size
      have hlb : b < wr.heap.size := by omega
      have hlb2 : b2 < wr.heap.size := by omega
      clear hc hc2
      go_wp2_with fail
      go_region
      go_wp2_with fail
      go_roundw
      case rel => exact ⟨q + 1, by omega, by go_num, Lib.hid (Below.drew HBQ.out), Lib.hid (HQ1.out.drew), Lib.hid (HQ2.out.drew)⟩
      case measure => simp [Lib.intOf]; omega
    · have hge : ¬ (q : Int) < (st.length : Int) := by omega
      have k1 := HQ1.out.cell; have f1 := HQ1.out.frozen; have l1 := HQ1.out.lt; have k2 := HQ2.out.cell; have f2 := HQ2.out.frozen; have l2 := HQ2.out.lt
      clear hlt
      go_wp2_with fail
      go_loopw [66] (fun x66 wr => ∃ q : Nat, q ≤ ar.length ∧ x66 = .int .i64 q ∧ Hid (Below W.heap.size W wr) ∧ Hid (Blk wr n1 50 #[.int .i64 k, .int .i64 v.kind, .bool v.bool, .int .i64 v.int, .string v.str, .slice la v.list.length lc, .slice ma v.map.length mc, .string nm, .slice sa st.length sc, .slice aa ar.length ac]) ∧ Hid (Blk wr n2 45 #[.int .i64 k, .int .i64 v.kind, .bool v.bool, .int .i64 v.int, .string v.str, .slice la2 v.list.length lc2, .slice ma2 v.map.length mc2, .string nm, .slice sa2 st.length sc2, .slice aa2 ar.length ac2])) (fun x _ => ar.length - (Lib.intOf x).toNat)
      case atStart => exact ⟨0, Nat.zero_le _, rfl, HBQ, HQ1, HQ2⟩
      case round =>
        obtain ⟨q, hq, rfl, HBP, HP1, HP2⟩ := hrel
        clear k1 f1 l1 k2 f2 l2
        by_cases hlt : q < ar.length
        · obtain ⟨b, bo, rfl, hbl, hcell⟩ := HA.out q hlt
          obtain ⟨b2, bo2, csB, rfl, hbl2, hcell2, hxB⟩ := HA2.out q hlt
          obtain ⟨lay, lcy, may, mcy, say, scy, aay, acy, hC, -⟩ := HR.out q hlt
          have hih := HIH.out q hlt
          rw [hC] at hcell hih
          obtain ⟨y, hy⟩ : ∃ z, z = ar[q] := ⟨_, rfl⟩
          rw [← hy] at hcell hih hxB
          obtain ⟨laz, lcz, maz, mcz, saz, scz, aaz, acz, rfl, -⟩ := hxB.inv
          have hcw : cellsAt wr b (bo + q * 10) [.int .i64 y.kind, .int .i64 y.val.kind, .bool y.val.bool, .int .i64 y.val.int, .string y.val.str, .slice lay y.val.list.length lcy, .slice may y.val.map.length mcy, .string y.name, .slice say y.steps.length scy, .slice aay y.args.length acy] := hcell.keep fun i => HBP.out.cell (p := ⟨b, i, none⟩) hbl
          have hdw : cellsAt wr b2 (bo2 + q * 10) [.int .i64 y.kind, .int .i64 y.val.kind, .bool y.val.bool, .int .i64 y.val.int, .string y.val.str, .slice laz y.val.list.length lcz, .slice maz y.val.map.length mcz, .string y.name, .slice saz y.steps.length scz, .slice aaz y.args.length acz] := hcell2.keep fun i => HBP.out.cell (p := ⟨b2, i, none⟩) hbl2
          have hsz := HBP.out.size
          have hlb : b < wr.heap.size := by omega
          have hlb2 : b2 < wr.heap.size := by omega
          have HSS := Lib.hid (show ∀ wx, Below wr.heap.size wr wx → (fun w' => (∀ i, w'.cell? ⟨n1, i, none⟩ = (#[.int .i64 k, .int .i64 v.kind, .bool v.bool, .int .i64 v.int, .string v.str, .slice la v.list.length lc, .slice ma v.map.length mc, .string nm, .slice sa st.length sc, .slice (some ⟨b, bo, none⟩) ar.length ac] : Array Value)[i]?) ∧ (∀ i, w'.cell? ⟨n2, i, none⟩ = (#[.int .i64 k, .int .i64 v.kind, .bool v.bool, .int .i64 v.int, .string v.str, .slice la2 v.list.length lc2, .slice ma2 v.map.length mc2, .string nm, .slice sa2 st.length sc2, .slice (some ⟨b2, bo2, none⟩) ar.length ac2] : Array Value)[i]?) ∧ w'.cell? ⟨b, bo + q * 10, none⟩ = some (.int .i64 y.kind) ∧ w'.cell? ⟨b, bo + q * 10 + 1, none⟩ = some (.int .i64 y.val.kind) ∧ w'.cell? ⟨b, bo + q * 10 + 2, none⟩ = some (.bool y.val.bool) ∧ w'.cell? ⟨b, bo + q * 10 + 3, none⟩ = some (.int .i64 y.val.int) ∧ w'.cell? ⟨b, bo + q * 10 + 4, none⟩ = some (.string y.val.str) ∧ w'.cell? ⟨b, bo + q * 10 + 5, none⟩ = some (.slice lay y.val.list.length lcy) ∧ w'.cell? ⟨b, bo + q * 10 + 6, none⟩ = some (.slice may y.val.map.length mcy) ∧ w'.cell? ⟨b, bo + q * 10 + 7, none⟩ = some (.string y.name) ∧ w'.cell? ⟨b, bo + q * 10 + 8, none⟩ = some (.slice say y.steps.length scy) ∧ w'.cell? ⟨b, bo + q * 10 + 9, none⟩ = some (.slice aay y.args.length acy) ∧ w'.cell? ⟨b2, bo2 + q * 10, none⟩ = some (.int .i64 y.kind) ∧ w'.cell? ⟨b2, bo2 + q * 10 + 1, none⟩ = some (.int .i64 y.val.kind) ∧ w'.cell? ⟨b2, bo2 + q * 10 + 2, none⟩ = some (.bool y.val.bool) ∧ w'.cell? ⟨b2, bo2 + q * 10 + 3, none⟩ = some (.int .i64 y.val.int) ∧ w'.cell? ⟨b2, bo2 + q * 10 + 4, none⟩ = some (.string y.val.str) ∧ w'.cell? ⟨b2, bo2 + q * 10 + 5, none⟩ = some (.slice laz y.val.list.length lcz) ∧ w'.cell? ⟨b2, bo2 + q * 10 + 6, none⟩ = some (.slice maz y.val.map.length mcz) ∧ w'.cell? ⟨b2, bo2 + q * 10 + 7, none⟩ = some (.string y.name) ∧ w'.cell? ⟨b2, bo2 + q * 10 + 8, none⟩ = some (.slice saz y.steps.length scz) ∧ w'.cell? ⟨b2, bo2 + q * 10 + 9, none⟩ = some (.slice aaz y.args.length acz)) wx from fun wx hx => ⟨(HP1.out.keep hx).cell, (HP2.out.keep hx).cell, (hx.cell (p := ⟨b, bo + q * 10, none⟩) hlb).trans (hcw 0 _ rfl), (hx.cell (p := ⟨b, bo + q * 10 + 1, none⟩) hlb).trans (hcw 1 _ rfl), (hx.cell (p := ⟨b, bo + q * 10 + 2, none⟩) hlb).trans (hcw 2 _ rfl), (hx.cell (p := ⟨b, bo + q * 10 + 3, none⟩) hlb).trans (hcw 3 _ rfl), (hx.cell (p := ⟨b, bo + q * 10 + 4, none⟩) hlb).trans (hcw 4 _ rfl), (hx.cell (p := ⟨b, bo + q * 10 + 5, none⟩) hlb).trans (hcw 5 _ rfl), (hx.cell (p := ⟨b, bo + q * 10 + 6, none⟩) hlb).trans (hcw 6 _ rfl), (hx.cell (p := ⟨b, bo + q * 10 + 7, none⟩) hlb).trans (hcw 7 _ rfl), (hx.cell (p := ⟨b, bo + q * 10 + 8, none⟩) hlb).trans (hcw 8 _ rfl), (hx.cell (p := ⟨b, bo + q * 10 + 9, none⟩) hlb).trans (hcw 9 _ rfl), (hx.cell (p := ⟨b2, bo2 + q * 10, none⟩) hlb2).trans (hdw 0 _ rfl), (hx.cell (p := ⟨b2, bo2 + q * 10 + 1, none⟩) hlb2).trans (hdw 1 _ rfl), (hx.cell (p := ⟨b2, bo2 + q * 10 + 2, none⟩) hlb2).trans (hdw 2 _ rfl), (hx.cell (p := ⟨b2, bo2 + q * 10 + 3, none⟩) hlb2).trans (hdw 3 _ rfl), (hx.cell (p := ⟨b2, bo2 + q * 10 + 4, none⟩) hlb2).trans (hdw 4 _ rfl), (hx.cell (p := ⟨b2, bo2 + q * 10 + 5, none⟩) hlb2).trans (hdw 5 _ rfl), (hx.cell (p := ⟨b2, bo2 + q * 10 + 6, none⟩) hlb2).trans (hdw 6 _ rfl), (hx.cell (p := ⟨b2, bo2 + q * 10 + 7, none⟩) hlb2).trans (hdw 7 _ rfl), (hx.cell (p := ⟨b2, bo2 + q * 10 + 8, none⟩) hlb2).trans (hdw 8 _ rfl), (hx.cell (p := ⟨b2, bo2 + q * 10 + 9, none⟩) hlb2).trans (hdw 9 _ rfl)⟩)
          have HIHY := Lib.hid hih; have HXB := Lib.hid (hxB.keep HBP.out)
          have HWR := Lib.hid (show Below w.heap.size w wr from ⟨HBP.out.os.trans HW.out.os, HBP.out.tape.trans HW.out.tape, HBP.out.output.trans HW.out.output, Nat.le_trans HW.out.size HBP.out.size, fun b hb => (HBP.out.block b (by omega)).trans (HW.out.block b hb)⟩)
          have hg0 : (0 : Int) ≤ (q : Int) := by omega
          have hg1 : (q : Int) < (ar.length : Int) := by omega
          have hwk : IntKind.i64.wrap ((q : Int) + 1) = (q : Int) + 1 := wrap_fit (by omega) (by omega)
          clear hcell hcell2 hcw hdw hC hih hxB hy
          go_upto_region 12 with fail
          refine wp_region_tail (S := (fun w' => (∀ i, w'.cell? ⟨n1, i, none⟩ = (#[.int .i64 k, .int .i64 v.kind, .bool v.bool, .int .i64 v.int, .string v.str, .slice la v.list.length lc, .slice ma v.map.length mc, .string nm, .slice sa st.length sc, .slice (some ⟨b, bo, none⟩) ar.length ac] : Array Value)[i]?) ∧ (∀ i, w'.cell? ⟨n2, i, none⟩ = (#[.int .i64 k, .int .i64 v.kind, .bool v.bool, .int .i64 v.int, .string v.str, .slice la2 v.list.length lc2, .slice ma2 v.map.length mc2, .string nm, .slice sa2 st.length sc2, .slice (some ⟨b2, bo2, none⟩) ar.length ac2] : Array Value)[i]?) ∧ w'.cell? ⟨b, bo + q * 10, none⟩ = some (.int .i64 y.kind) ∧ w'.cell? ⟨b, bo + q * 10 + 1, none⟩ = some (.int .i64 y.val.kind) ∧ w'.cell? ⟨b, bo + q * 10 + 2, none⟩ = some (.bool y.val.bool) ∧ w'.cell? ⟨b, bo + q * 10 + 3, none⟩ = some (.int .i64 y.val.int) ∧ w'.cell? ⟨b, bo + q * 10 + 4, none⟩ = some (.string y.val.str) ∧ w'.cell? ⟨b, bo + q * 10 + 5, none⟩ = some (.slice lay y.val.list.length lcy) ∧ w'.cell? ⟨b, bo + q * 10 + 6, none⟩ = some (.slice may y.val.map.length mcy) ∧ w'.cell? ⟨b, bo + q * 10 + 7, none⟩ = some (.string y.name) ∧ w'.cell? ⟨b, bo + q * 10 + 8, none⟩ = some (.slice say y.steps.length scy) ∧ w'.cell? ⟨b, bo + q * 10 + 9, none⟩ = some (.slice aay y.args.length acy) ∧ w'.cell? ⟨b2, bo2 + q * 10, none⟩ = some (.int .i64 y.kind) ∧ w'.cell? ⟨b2, bo2 + q * 10 + 1, none⟩ = some (.int .i64 y.val.kind) ∧ w'.cell? ⟨b2, bo2 + q * 10 + 2, none⟩ = some (.bool y.val.bool) ∧ w'.cell? ⟨b2, bo2 + q * 10 + 3, none⟩ = some (.int .i64 y.val.int) ∧ w'.cell? ⟨b2, bo2 + q * 10 + 4, none⟩ = some (.string y.val.str) ∧ w'.cell? ⟨b2, bo2 + q * 10 + 5, none⟩ = some (.slice laz y.val.list.length lcz) ∧ w'.cell? ⟨b2, bo2 + q * 10 + 6, none⟩ = some (.slice maz y.val.map.length mcz) ∧ w'.cell? ⟨b2, bo2 + q * 10 + 7, none⟩ = some (.string y.name) ∧ w'.cell? ⟨b2, bo2 + q * 10 + 8, none⟩ = some (.slice saz y.steps.length scz) ∧ w'.cell? ⟨b2, bo2 + q * 10 + 9, none⟩ = some (.slice aaz y.args.length acz))) 11 (by kernel_rfl) (by kernel_rfl) (by exact HSS.out _ (Below.refl _ _).drew) (fun hHeld => ?_)
          simp only [List.dropLast]
          refine wpAnyH_take (i := 0) (v := ?vm1_0) (by conv => lhs; simp only [List.getElem?_toArray, List.getElem?_cons_succ, List.getElem?_cons_zero]) (by kernel_rfl) (by kernel_rfl) (by kernel_rfl) (by exact fun _ _ _ h => h) (Or.inl ⟨by rfl, ?hym1_0⟩) (by assumption) ?_
          case hym1_0 => (intro w0 hSw; (try dsimp only at hSw); go_simp; (try with_reducible rfl); (try assumption))
          try simp only [Act.put, List.setIfInBounds_toArray, List.set_cons_zero, List.set_cons_succ]
          refine wpAnyH_take (i := 1) (v := ?vm1_1) (by conv => lhs; simp only [List.getElem?_toArray, List.getElem?_cons_succ, List.getElem?_cons_zero]) (by kernel_rfl) (by kernel_rfl) (by kernel_rfl) (by exact fun _ _ _ h => h) (Or.inl ⟨by rfl, ?hym1_1⟩) (by assumption) ?_
          case hym1_1 => (intro w0 hSw; (try dsimp only at hSw); go_simp; (try with_reducible rfl); (try assumption))
          try simp only [Act.put, List.setIfInBounds_toArray, List.set_cons_zero, List.set_cons_succ]
          refine wpAnyH_take (i := 2) (v := ?vm1_2) (by conv => lhs; simp only [List.getElem?_toArray, List.getElem?_cons_succ, List.getElem?_cons_zero]) (by kernel_rfl) (by kernel_rfl) (by kernel_rfl) (by exact fun _ _ _ h => h) (Or.inl ⟨by rfl, ?hym1_2⟩) (by assumption) ?_
          case hym1_2 => (intro w0 hSw; (try dsimp only at hSw); go_simp; (try with_reducible rfl); (try assumption))
          try simp only [Act.put, List.setIfInBounds_toArray, List.set_cons_zero, List.set_cons_succ]
          refine wpAnyH_take (i := 3) (v := ?vm1_3) (by conv => lhs; simp only [List.getElem?_toArray, List.getElem?_cons_succ, List.getElem?_cons_zero]) (by kernel_rfl) (by kernel_rfl) (by kernel_rfl) (by exact fun _ _ _ h => h) (Or.inl ⟨by rfl, ?hym1_3⟩) (by assumption) ?_
          case hym1_3 => (intro w0 hSw; (try dsimp only at hSw); go_simp; (try with_reducible rfl); (try assumption))
          try simp only [Act.put, List.setIfInBounds_toArray, List.set_cons_zero, List.set_cons_succ]
          refine wpAnyH_take (i := 4) (v := ?vm1_4) (by conv => lhs; simp only [List.getElem?_toArray, List.getElem?_cons_succ, List.getElem?_cons_zero]) (by kernel_rfl) (by kernel_rfl) (by kernel_rfl) (by exact fun _ _ _ h => h) (Or.inl ⟨by rfl, ?hym1_4⟩) (by assumption) ?_
          case hym1_4 => (intro w0 hSw; (try dsimp only at hSw); go_simp; (try with_reducible rfl); (try assumption))
          try simp only [Act.put, List.setIfInBounds_toArray, List.set_cons_zero, List.set_cons_succ]
          refine wpAnyH_take (i := 5) (v := ?vm1_5) (by conv => lhs; simp only [List.getElem?_toArray, List.getElem?_cons_succ, List.getElem?_cons_zero]) (by kernel_rfl) (by kernel_rfl) (by kernel_rfl) (by exact fun _ _ _ h => h) (Or.inl ⟨by rfl, ?hym1_5⟩) (by assumption) ?_
          case hym1_5 => (intro w0 hSw; (try dsimp only at hSw); go_simp; (try with_reducible rfl); (try assumption))
          try simp only [Act.put, List.setIfInBounds_toArray, List.set_cons_zero, List.set_cons_succ]
          refine wpAnyH_take (i := 6) (v := ?vm1_6) (by conv => lhs; simp only [List.getElem?_toArray, List.getElem?_cons_succ, List.getElem?_cons_zero]) (by kernel_rfl) (by kernel_rfl) (by kernel_rfl) (by exact fun _ _ _ h => h) (Or.inl ⟨by rfl, ?hym1_6⟩) (by assumption) ?_
          case hym1_6 => (intro w0 hSw; (try dsimp only at hSw); go_simp; (try with_reducible rfl); (try assumption))
          try simp only [Act.put, List.setIfInBounds_toArray, List.set_cons_zero, List.set_cons_succ]
          refine wpAnyH_take (i := 7) (v := ?vm1_7) (by conv => lhs; simp only [List.getElem?_toArray, List.getElem?_cons_succ, List.getElem?_cons_zero]) (by kernel_rfl) (by kernel_rfl) (by kernel_rfl) (by exact fun _ _ _ h => h) (Or.inl ⟨by rfl, ?hym1_7⟩) (by assumption) ?_
          case hym1_7 => (intro w0 hSw; (try dsimp only at hSw); go_simp; (try with_reducible rfl); (try assumption))
          try simp only [Act.put, List.setIfInBounds_toArray, List.set_cons_zero, List.set_cons_succ]
          refine wpAnyH_take (i := 8) (v := ?vm1_8) (by conv => lhs; simp only [List.getElem?_toArray, List.getElem?_cons_succ, List.getElem?_cons_zero]) (by kernel_rfl) (by kernel_rfl) (by kernel_rfl) (by exact fun _ _ _ h => h) (Or.inl ⟨by rfl, ?hym1_8⟩) (by assumption) ?_
          case hym1_8 => (intro w0 hSw; (try dsimp only at hSw); go_simp; (try with_reducible rfl); (try assumption))
          try simp only [Act.put, List.setIfInBounds_toArray, List.set_cons_zero, List.set_cons_succ]
          refine wpAnyH_take (i := 9) (v := ?vm1_9) (by conv => lhs; simp only [List.getElem?_toArray, List.getElem?_cons_succ, List.getElem?_cons_zero]) (by kernel_rfl) (by kernel_rfl) (by kernel_rfl) (by exact fun _ _ _ h => h) (Or.inl ⟨by rfl, ?hym1_9⟩) (by assumption) ?_
          case hym1_9 => (intro w0 hSw; (try dsimp only at hSw); go_simp; (try with_reducible rfl); (try assumption))
          try simp only [Act.put, List.setIfInBounds_toArray, List.set_cons_zero, List.set_cons_succ]
          refine wpAnyH_ready (rs := [10]) (by kernel_rfl) (by simp) ?_
          refine AllReadyH.cons (by conv => lhs; simp only [List.getElem?_toArray, List.getElem?_cons_succ, List.getElem?_cons_zero]) (fun K hK => ?_) AllReadyH.nil
          go_simp
          refine (HIHY.out _ _ _ HWR.out.drew (HXB.out.keep (Below.drew (Below.refl _ _)))).mono ?_
          rintro e w8 ⟨rfl, hb8⟩
          have HW8 := Lib.hid (Below.next ((Below.refl wr.heap.size wr).drew) hb8)
          clear hb8
          go_wp2_with fail
          refine hK.out _ _ (by exact HSS.out _ HW8.out) (fun hHeld => ?_)
          clear hK K
          try simp only [Act.put, List.setIfInBounds_toArray, List.set_cons_zero, List.set_cons_succ]
          refine wpAnyH_done (by kernel_rfl) ?_ _
          refine LastQ.step (by conv => lhs; simp only [List.getElem?_toArray, List.getElem?_cons_succ, List.getElem?_cons_zero]) (fun K hK => ?_)
          go_simp
          refine hK.out _ _ ?_
          clear hK K
          try simp only [Act.put, List.setIfInBounds_toArray, List.set_cons_zero, List.set_cons_succ]
          go_wp2_with fail
          go_roundw
          case rel => exact ⟨q + 1, by omega, by go_num, Lib.hid (Below.next HBP.out HW8.out), Lib.hid (HP1.out.keep HW8.out), Lib.hid (HP2.out.keep HW8.out)⟩
          case measure => simp [Lib.intOf]; omega
        · have hge : ¬ (q : Int) < (ar.length : Int) := by omega
          clear hlt
          go_wp2_with fail
          go_ret
          exact ⟨rfl, HBP.out⟩
end Go.Proofs.YtnblmhfgmehnnaaGreatDoor

