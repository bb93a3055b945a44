/- Several texts as one. -/
import Derived.Test.YtnblmhfgmehnnaaGreatDoorBdAN
import Derived.Test.YtnblmhfgmehnnaaGreatDoorBdAO
import Derived.Test.YtnblmhfgmehnnaaGreatDoorBdAQ
import Derived.Test.YtnblmhfgmehnnaaGreatDoorBdAR
import Derived.Test.YtnblmhfgmehnnaaGreatDoorBdAS
/- The maker: nodes and block, whole; parse.Parse, parse.Pipe. -/
namespace Go.Proofs.YtnblmhfgmehnnaaGreatDoor
open Go.RowKit Go.Lib
attribute [local go_sem ↓] Go.wp_at_zero Go.wp_at_succ

theorem bl_ok (gm : Nat) (A : Option Addr) (c : Nat) (toks : List Tok) (m0 : Mk) (wd s : ByteArray) (w : World) (hw4 : wd.data.toList = ifW ∨ wd.data.toList = withW ∨ wd.data.toList = rangeW ∨ wd.data.toList = defineW) (hs : s.size ≤ 1000000) (h : MkAt w gm A c toks m0) (hv : ScalV w) (hs1 : 0 ≤ m0.deep) (hs0 : m0.deep + m0.rest.length < 1000000) (hgl : Glob gm) (hfit : Fit toks) {n : Nat} (hf : 2 * m0.rest.length + 2 ≤ n + 1) (HN : NoOk gm A c toks n) (HB : BlOk gm A c toks n) : Calls Tryz.prog 57 #[.pointer (some ⟨gm, 0, none⟩), .string wd, .string s] w (NdPost gm A c toks (blockF (n + 1) wd.data.toList s.data.toList m0).1 (blockF (n + 1) wd.data.toList s.data.toList m0).2 w) := by
  have TH : ∀ (m : Mk) (W : World), MkAt W gm A c toks m → ScalV W → Calls Tryz.prog 80 #[.pointer (some ⟨gm, 0, none⟩), .string wd, .string s] W (NdPost gm A c toks (headF wd.data.toList s.data.toList m).1 (headF wd.data.toList s.data.toList m).2 W) := fun m W hM hV => thead gm A c toks m wd s W hM hs hV hw4
  by_cases hdp : 16 < m0.deep + 1
  · exact bl_deep gm A c toks m0 wd s w hw4 h hv hs1 hs0 hgl TH hf HN HB hdp
  · have tails : ∀ st rs : List UInt8, ECase 0 st (skipB rs) ∨ ECase 1 st (skipB rs) ∨ ECase 2 st (skipB rs) := fun st rs => by
      by_cases e1 : st = endW
      · by_cases e2 : skipB rs = []
        · exact .inl ⟨e1, e2⟩
        · exact .inr (.inl ⟨e1, e2⟩)
      · exact .inr (.inr e1)
    obtain ⟨X, hX⟩ : ∃ z, z = (nodesF n [] (headF wd.data.toList s.data.toList ⟨m0.rest, m0.deep + 1, m0.bad⟩).2).1 := ⟨_, rfl⟩
    by_cases c1 : X.stop = elseW
    · by_cases c2 : wd.data.toList = ifW
      · by_cases c3 : wordL (skipB X.rest) = ifW
        · exact bl_case0 gm A c toks m0 wd s w hw4 h hv hs1 hs0 hgl hfit TH hf HN HB hdp (by rw [← hX]; exact ⟨c1, c2, c3⟩)
        · by_cases c4 : skipB X.rest = []
          · have hK : BCase 1 X.stop wd.data.toList (skipB X.rest) := ⟨c1, c2, c3, c4⟩
            rw [hX] at hK
            rcases tails _ _ with e | e | e
            · exact bl_case1a gm A c toks m0 wd s w hw4 h hv hs1 hs0 hgl hfit TH hf HN HB hdp hK e
            · exact bl_case1b gm A c toks m0 wd s w hw4 h hv hs1 hs0 hgl hfit TH hf HN HB hdp hK e
            · exact bl_case1c gm A c toks m0 wd s w hw4 h hv hs1 hs0 hgl hfit TH hf HN HB hdp hK e
          · exact bl_case2 gm A c toks m0 wd s w hw4 h hv hs1 hs0 hgl hfit TH hf HN HB hdp (by rw [← hX]; exact ⟨c1, c2, c3, c4⟩)
      · by_cases c5 : wd.data.toList = defineW
        · exact bl_case3 gm A c toks m0 wd s w hw4 h hv hs1 hs0 hgl hfit TH hf HN HB hdp (by rw [← hX]; exact ⟨c1, c2, c5⟩)
        · by_cases c4 : skipB X.rest = []
          · have hK : BCase 4 X.stop wd.data.toList (skipB X.rest) := ⟨c1, c2, c5, c4⟩
            rw [hX] at hK
            rcases tails _ _ with e | e | e
            · exact bl_case4a gm A c toks m0 wd s w hw4 h hv hs1 hs0 hgl hfit TH hf HN HB hdp hK e
            · exact bl_case4b gm A c toks m0 wd s w hw4 h hv hs1 hs0 hgl hfit TH hf HN HB hdp hK e
            · exact bl_case4c gm A c toks m0 wd s w hw4 h hv hs1 hs0 hgl hfit TH hf HN HB hdp hK e
          · exact bl_case5 gm A c toks m0 wd s w hw4 h hv hs1 hs0 hgl hfit TH hf HN HB hdp (by rw [← hX]; exact ⟨c1, c2, c5, c4⟩)
    · have hK : BCase 6 X.stop wd.data.toList (skipB X.rest) := c1
      rw [hX] at hK
      rcases tails _ _ with e | e | e
      · exact bl_case6a gm A c toks m0 wd s w hw4 h hv hs1 hs0 hgl hfit TH hf HN HB hdp hK e
      · exact bl_case6b gm A c toks m0 wd s w hw4 h hv hs1 hs0 hgl hfit TH hf HN HB hdp hK e
      · exact bl_case6c gm A c toks m0 wd s w hw4 h hv hs1 hs0 hgl hfit TH hf HN HB hdp hK e
theorem mk_all {gm : Nat} {A : Option Addr} {c : Nat} {toks : List Tok} (hgl : Glob gm) (hfit : Fit toks) (htl : toks.length ≤ 1000000) (n : Nat) : NoOk gm A c toks n ∧ BlOk gm A c toks n := by
  induction n with
  | zero => exact ⟨fun k hk m W h1 => by omega, fun k hk wd s m W h0 hs h1 => by omega⟩
  | succ n ih =>
    refine ⟨fun k hk m W h1 hb hm hv => ?_, fun k hk wd s m W h0 hs h1 hd hsm hm hv => ?_⟩
    · by_cases e : k ≤ n
      · exact ih.1 k e m W h1 hb hm hv
      · obtain rfl : k = n + 1 := by omega
        exact no_ok gm A c toks m W hm hv hb hfit htl hgl h1 ih.2
    · by_cases e : k ≤ n
      · exact ih.2 k e wd s m W h0 hs h1 hd hsm hm hv
      · obtain rfl : k = n + 1 := by omega
        exact bl_ok gm A c toks m wd s W h0 hs hm hv hd hsm hgl hfit h1 ih.1 ih.2
/-- The nodes of all tokens. -/
theorem tnodes (gm : Nat) (A : Option Addr) (c : Nat) (toks : List Tok) (W : World) (h : MkAt W gm A c toks ⟨toks, 0, 0⟩) (hv : ScalV W) (hgl : Glob gm) (hfit : Fit toks) (htl : toks.length ≤ 1000000) : Calls Tryz.prog 28 #[.pointer (some ⟨gm, 0, none⟩)] W (NsPost gm A c toks (nodesF (fuelN toks) [] ⟨toks, 0, 0⟩).1 (nodesF (fuelN toks) [] ⟨toks, 0, 0⟩).2 W) :=
  (mk_all hgl hfit htl (fuelN toks)).1 _ (Nat.le_refl _) _ _ (by show 2 * toks.length + 1 ≤ 2 * toks.length + 4; omega) ⟨Int.le_refl _, by show (0 : Int) + toks.length ≤ _; omega⟩ h hv
end Go.Proofs.YtnblmhfgmehnnaaGreatDoor

/- parse.Parse and parse.Pipe. -/
namespace Go.Proofs.YtnblmhfgmehnnaaGreatDoor
open Go.RowKit Go.Lib
attribute [local go_sem ↓] Go.wp_at_zero Go.wp_at_succ

/-! ### Plain: tokens are no longer than the template, and no more than its bytes -/
theorem trimL_le (l s : List UInt8) : (Lib.trimLeftS l s).length ≤ l.length := by
  unfold Lib.trimLeftS
  induction l with
  | nil => exact Nat.le_refl _
  | cons a l ih =>
    rw [List.dropWhile_cons]
    split
    · simp only [List.length_cons]; omega
    · exact Nat.le_refl _
theorem trimR_le (l s : List UInt8) : (Lib.trimRightS l s).length ≤ l.length := by
  unfold Lib.trimRightS
  have h := trimL_le l.reverse s
  unfold Lib.trimLeftS at h
  rw [List.length_reverse] at h ⊢
  exact h
theorem body_le (raw : List UInt8) : (body raw).length ≤ raw.length := by
  have h1 : (raw1 raw).length ≤ raw.length := by unfold raw1; split <;> simp
  have h2 : (raw2 raw).length ≤ (raw1 raw).length := by unfold raw2; split <;> simp
  have h3 : (body raw).length ≤ (raw2 raw).length := by unfold body Lib.trimS; exact Nat.le_trans (trimL_le _ _) (trimR_le _ _)
  omega
theorem txt_fit {s : List UInt8} {n K : Nat} (h : s.length ≤ K) : (∀ t ∈ txt s n, t.s.length ≤ K) ∧ (txt s n).length ≤ 1 := by
  unfold txt
  split
  · exact ⟨fun t ht => absurd ht List.not_mem_nil, Nat.zero_le _⟩
  · exact ⟨fun t ht => by rw [List.mem_singleton] at ht; rw [ht]; exact h, Nat.le_refl _⟩
theorem actn_fit {s : List UInt8} {n K : Nat} (h : s.length ≤ K) : (∀ t ∈ actn s n, t.s.length ≤ K) ∧ (actn s n).length ≤ 1 := by
  unfold actn
  split
  · exact ⟨fun t ht => absurd ht List.not_mem_nil, Nat.zero_le _⟩
  · exact ⟨fun t ht => by rw [List.mem_singleton] at ht; rw [ht]; exact h, Nat.le_refl _⟩
theorem ahead_le (cut : Bool) (s : List UInt8) : (ahead cut s).length ≤ s.length := by
  unfold ahead
  split
  · exact trimL_le _ _
  · exact Nat.le_refl _
theorem behind_le (raw s : List UInt8) : (behind raw s).length ≤ s.length := by
  unfold behind
  split
  · exact trimR_le _ _
  · exact Nat.le_refl _
theorem splitM_fit : ∀ (n : Nat) (s : List UInt8) (i : Nat) (cut : Bool) (toks : List Tok) (K : Nat), s.length ≤ K → splitM n s i cut = some toks → (∀ t ∈ toks, t.s.length ≤ K) ∧ toks.length ≤ s.length
  | 0, s, i, cut, toks, K, hK, h => by
    rw [splitM] at h
    injection h with h
    subst h
    exact ⟨fun t ht => absurd ht List.not_mem_nil, Nat.zero_le _⟩
  | n + 1, s, i, cut, toks, K, hK, h => by
    rw [splitM] at h
    split at h
    · injection h with h
      subst h
      exact ⟨fun t ht => absurd ht List.not_mem_nil, Nat.zero_le _⟩
    · next hs =>
      have hs0 : 0 < s.length := List.length_pos_iff.2 hs
      split at h
      · next hf =>
        injection h with h
        subst h
        have h1 := txt_fit (n := i + (s.length - (ahead cut s).length)) (Nat.le_trans (ahead_le cut s) hK)
        exact ⟨h1.1, by have := h1.2; omega⟩
      · next o hf =>
        have hb := find2_bound hf
        split at h
        · cases h
        · next e hc =>
          have he := clos_bound _ (Nat.le_refl _) hc
          rw [List.length_drop] at he
          obtain ⟨r, hr, rfl⟩ := Option.map_eq_some_iff.1 h
          have ih := splitM_fit n _ _ _ r K (by rw [List.length_drop]; omega) hr
          rw [List.length_drop] at ih
          have hraw : ((s.drop (o + 2)).take e).length ≤ K := by rw [List.length_take, List.length_drop]; omega
          have h1 := txt_fit (n := i + (o - (ahead cut (s.take o)).length)) (s := behind ((s.drop (o + 2)).take e) (ahead cut (s.take o))) (K := K) (Nat.le_trans (behind_le _ _) (Nat.le_trans (ahead_le _ _) (by rw [List.length_take]; omega)))
          have h2 := actn_fit (n := i + o) (s := body ((s.drop (o + 2)).take e)) (K := K) (Nat.le_trans (body_le _) hraw)
          refine ⟨fun t ht => ?_, ?_⟩
          · rcases List.mem_append.1 ht with ht | ht
            · exact h1.1 t ht
            · rcases List.mem_append.1 ht with ht | ht
              · exact h2.1 t ht
              · exact ih.1 t ht
          · rw [List.length_append, List.length_append]
            have := h1.2; have := h2.2; have := ih.2; omega

/-- The nodes of a template, or what is wrong. -/
def PrPost (s : List UInt8) (w : World) (e : Ending) (w' : World) : Prop :=
  ∃ a k, e = .returned (.tuple #[.slice a (parseF s).1.length k, .int .i64 (parseF s).2]) ∧ RepNs w' (fun b => w.heap.size ≤ b) a (parseF s).1 ∧ Room (parseF s).1.length k 264 ∧ Below w.heap.size w w'
theorem prPost_bad {s : List UInt8} {w w' : World} {b : Int} (h : parseF s = ([], b)) (hb : Below w.heap.size w w') : PrPost s w (.returned (.tuple #[.slice none 0 0, .int .i64 b])) w' :=
  ⟨none, 0, by rw [h]; rfl, by rw [h]; exact RepNs.nil, by rw [h]; exact Room.nil _, hb⟩

set_option maxRecDepth 100000 in
set_option maxHeartbeats 8000000 in
theorem tParse (s : ByteArray) (w : World) (hs : s.size ≤ 65536) (hm : MaxL w) (hv : ScalV w) : Calls Tryz.prog 12 #[.string s] w (PrPost s.data.toList w) := by
  have hlen : ¬ 65536 < s.data.toList.length := by rw [← size_list]; omega
  cases hsp : splitM (s.size + 1) s.data.toList 0 false with
  | none =>
    have HP := Lib.hid (show parseF s.data.toList = ([], 21) from by unfold parseF; rw [if_neg hlen, ← size_list, hsp])
    have CS := Lib.hid (tsplit_none w hs hm hsp)
    clear hsp hlen hm hs hv
    go_enter Tryz.func12, Tryz.ntmps12
    go_wp2_with fail
    refine CS.out.mono ?_
    rintro e w1 ⟨rfl, hb1⟩
    have HB1 := Lib.hid hb1
    clear hb1
    go_wp2_with fail
    go_ret2
    exact prPost_bad HP.out HB1.out
  | some toks =>
    have hft := splitM_fit _ _ _ _ toks 65536 (by rw [← size_list]; exact hs) hsp
    rw [← size_list] at hft
    have HFIT := Lib.hid hft.1
    have htl : toks.length ≤ 65536 := by have := hft.2; omega
    have CS := Lib.hid (tsplit_ok w hs hm hsp)
    have hpf : parseF s.data.toList = (if (if (nodesF (fuelN toks) [] ⟨toks, 0, 0⟩).1.stop ≠ [] then (nodesF (fuelN toks) [] ⟨toks, 0, 0⟩).2.fail 21 else (nodesF (fuelN toks) [] ⟨toks, 0, 0⟩).2).bad = 0 then ((nodesF (fuelN toks) [] ⟨toks, 0, 0⟩).1.out, 0) else ([], (if (nodesF (fuelN toks) [] ⟨toks, 0, 0⟩).1.stop ≠ [] then (nodesF (fuelN toks) [] ⟨toks, 0, 0⟩).2.fail 21 else (nodesF (fuelN toks) [] ⟨toks, 0, 0⟩).2).bad)) := by
      unfold parseF
      rw [if_neg hlen, ← size_list, hsp]
    have hct := nodes_cnt (fuelN toks) [] ⟨toks, 0, 0⟩
    have CN := fun (W : World) (gm : Nat) (A : Option Addr) (c : Nat) (h : MkAt W gm A c toks ⟨toks, 0, 0⟩) (hvW : ScalV W) (hg : Glob gm) => tnodes gm A c toks W h hvW hg (HFIT.out) (by omega)
    obtain ⟨⟨⟨out, st, rs⟩, m⟩, hq⟩ : ∃ z, z = nodesF (fuelN toks) [] ⟨toks, 0, 0⟩ := ⟨_, rfl⟩
    rw [← hq] at hpf CN hct
    simp only at hpf CN hct
    rw [List.length_nil] at hct
    have HPF := Lib.hid hpf; have CNH := Lib.hid CN; have HV := Lib.hid hv
    clear hsp hlen hm hs hv hft CN hpf hq
    go_enter Tryz.func12, Tryz.ntmps12
    go_wp2_with fail
    refine CS.out.mono ?_
    rintro e w1 ⟨A, c, rfl, ht1, hc1, hc2, hb1⟩
    have hba := Below.new w1 (.cells #[.slice A toks.length c, .int .i64 0, .int .i64 0, .int .i64 0] 76)
    have hz0 : ((toks.length - toks.length : Nat) : Int) = 0 := by simp
    have HM := Lib.hid (show MkAt (w1.alloc (.cells #[.slice A toks.length c, .int .i64 0, .int .i64 0, .int .i64 0] 76)) w1.heap.size A c toks ⟨toks, 0, 0⟩ from ⟨by simp only [hz0]; exact Blk.new _ _ _, by simp, ht1.mono (fun _ _ hlt => hlt) (fun b o hb hlt => hba.cell hlt)⟩)
    have HB1 := Lib.hid (Below.next hb1 hba)
    have HG := Lib.hid (HV.out.glob (gc := w1.heap.size) hb1.size)
    have HV1 := Lib.hid ((HV.out.keep hb1).keep hba)
    have hwg : w.heap.size ≤ w1.heap.size := hb1.size
    clear hb1 ht1 hc1 hc2 hba hz0
    go_upto_region 5 with fail
    obtain ⟨W1, e1⟩ : ∃ z, z = w1.alloc (.cells #[.slice A toks.length c, .int .i64 0, .int .i64 0, .int .i64 0] 76) := ⟨_, rfl⟩
    obtain ⟨gm, eg⟩ : ∃ z, z = w1.heap.size := ⟨_, rfl⟩
    rw [← e1, ← eg] at HM
    rw [← e1] at HB1 HV1
    rw [← eg] at HG hwg
    rw [← e1, ← eg]
    clear e1 eg
    have hg1 := HM.out.blk.lt
    go_wp2_with fail
    refine (CNH.out _ _ _ _ HM.out HV1.out HG.out).mono ?_
    rintro e w2 ⟨a, k, rfl, ho2, hm2, hbar2⟩
    have HB2 := Lib.hid ((Bar.of HB1.out).trans hbar2 |>.under hwg); have HM2 := Lib.hid hm2; have HO2 := Lib.hid ho2
    have hs2 := HB1.out.size
    clear hbar2 hm2 ho2
    go_upto_region 6 with fail
    obtain ⟨sv, hsv⟩ : ∃ z, z = bs st := ⟨_, rfl⟩
    rw [← hsv]
    have hem : sv.toList.isEmpty = decide (st = []) := by rw [empty_eq, hsv]
    clear hsv
    by_cases h0 : st = []
    · rw [decide_eq_true h0] at hem
      have hpf := HPF.out
      rw [show (if st ≠ [] then m.fail 21 else m) = m from if_neg (fun h => h h0)] at hpf
      have km := HM2.out.blk.cell; have fm := HM2.out.blk.frozen; have lm := HM2.out.blk.lt
      by_cases hb : m.bad = 0
      · rw [if_pos hb] at hpf
        have g1 : (m.bad != 0) = false := by rw [hb]; rfl
        have HP := Lib.hid hpf
        clear hpf HPF h0 hb
        go_wp2_with fail
        go_ret2
        refine ⟨a, k, by rw [HP.out]; rfl, ?_, ?_, HB2.out⟩
        · rw [HP.out]; exact (own_repNs HO2.out).mono (fun b hb _ => by have := HB1.out.size; omega) (fun _ _ _ _ => rfl)
        · rw [HP.out]; exact own_roomN HO2.out (show out.length ≤ 1000000 by omega)
      · rw [if_neg hb] at hpf
        have g1 : (m.bad != 0) = true := bne_iff_ne.2 hb
        have HP := Lib.hid hpf
        clear hpf HPF h0 hb
        go_wp2_with fail
        go_region
        go_wp2_with fail
        go_ret2
        exact prPost_bad HP.out (Below.next HB2.out (Below.drew (Below.refl _ _)))
    · rw [decide_eq_false h0] at hem
      have hpf := HPF.out
      rw [show (if st ≠ [] then m.fail 21 else m) = m.fail 21 from if_pos h0] at hpf
      have HPF2 := Lib.hid hpf
      clear hpf HPF h0
      go_wp2_with fail
      refine (mfail gm A c toks m 21 _ HM2.out).mono ?_
      rintro e w3 ⟨rfl, hm3, hbar3⟩
      have HM3 := Lib.hid hm3; have HB3 := Lib.hid (((Bar.of (gc := gm) HB2.out).trans hbar3).under hwg)
      have hnz : (m.fail 21).bad ≠ 0 := by unfold Mk.fail; simp only; split <;> omega
      have hpf := HPF2.out
      rw [if_neg hnz] at hpf
      obtain ⟨mY, emY⟩ : ∃ z, z = m.fail 21 := ⟨_, rfl⟩
      rw [← emY] at hpf HM3 hnz
      have HP := Lib.hid hpf
      have g1 : (mY.bad != 0) = true := bne_iff_ne.2 hnz
      clear hm3 hbar3 hpf HPF2 emY hnz
      have km := HM3.out.blk.cell; have fm := HM3.out.blk.frozen; have lm := HM3.out.blk.lt
      go_wp2_with fail
      go_region
      go_wp2_with fail
      go_ret2
      exact prPost_bad HP.out (Below.next HB3.out (Below.drew (Below.refl _ _)))

set_option maxRecDepth 100000 in
set_option maxHeartbeats 8000000 in
theorem tPipe (s : ByteArray) (w : World) (hs : s.size ≤ 1000000) (hv : ScalV w) : Calls Tryz.prog 17 #[.string s] w (AllPost s.data.toList w) := by
  have hb0 := Below.new w (.cells #[.int .i64 0, .int .i64 0, .bool false, .int .i64 0, .string ⟨#[]⟩, .slice none 0 0, .slice none 0 0, .string ⟨#[]⟩, .slice none 0 0, .slice none 0 0] 50)
  have hX0 := Blk.new w 50 #[.int .i64 0, .int .i64 0, .bool false, .int .i64 0, .string ⟨#[]⟩, .slice none 0 0, .slice none 0 0, .string ⟨#[]⟩, .slice none 0 0, .slice none 0 0]
  have CA := Lib.hid (tall s (w.alloc (.cells #[.int .i64 0, .int .i64 0, .bool false, .int .i64 0, .string ⟨#[]⟩, .slice none 0 0, .slice none 0 0, .string ⟨#[]⟩, .slice none 0 0, .slice none 0 0] 50)) hs (hv.keep hb0))
  unfold AllPost at CA ⊢
  obtain ⟨x, hx⟩ : ∃ z, z = (allF s.data.toList).1 := ⟨_, rfl⟩
  obtain ⟨b, hb⟩ : ∃ z, z = (allF s.data.toList).2 := ⟨_, rfl⟩
  rw [← hx, ← hb] at CA ⊢
  obtain ⟨W0, e0⟩ : ∃ z, z = w.alloc (.cells #[.int .i64 0, .int .i64 0, .bool false, .int .i64 0, .string ⟨#[]⟩, .slice none 0 0, .slice none 0 0, .string ⟨#[]⟩, .slice none 0 0, .slice none 0 0] 50) := ⟨_, rfl⟩
  obtain ⟨n2, e2⟩ : ∃ z, z = w.heap.size := ⟨_, rfl⟩
  rw [← e0] at hb0 hX0 CA
  rw [← e2] at hX0
  have HX0 := Lib.hid hX0; have HB0 := Lib.hid hb0; have E0 := Lib.hid e0; have E2 := Lib.hid e2
  clear hx hb e0 e2 hX0 hb0 hv hs
  go_enter Tryz.func17, Tryz.ntmps17
  go_upto_region 1 with fail
  rw [← E0.out, ← E2.out]
  clear E0
  go_wp2_with fail
  refine CA.out.mono ?_
  rintro e w1 ⟨cs, rfl, hx1, hb1⟩
  obtain ⟨la, lc, ma, mc, sa, sc, aa, ac, rfl, -⟩ := hx1.1.inv
  have HX1 := Lib.hid (HX0.out.keep hb1); have HB1 := Lib.hid (Below.next HB0.out hb1); have HXX := Lib.hid hx1
  have HN := Lib.hid HX0.out.lt
  have HS := Lib.hid HB0.out.size
  have k2 := HX1.out.cell; have f2 := HX1.out.frozen; have l2 := HX1.out.lt
  clear hx1 hb1
  go_wp2_with fail
  refine ret_cell2 (p := 2) (q := 3) (g := n2) rfl rfl rfl (blk_set10 (w := w1) HX1.out) Tryz.underlying50 (by kernel_rfl) rfl ?_
  exact ⟨_, rfl, RepOS.mono HXX.out (fun b hb _ => by have := HS.out; omega) (fun b hb hlt => Bar.block (bar_set10 _ _ _ _ _ _ _ _ _ _ _ _) b hlt (by have := HN.out; omega)), (Bar.join (Bar.of (gc := n2) HB1.out) (bar_set10 _ _ _ _ _ _ _ _ _ _ _ _) (by have := E2.out; omega)).under (by have := E2.out; omega)⟩
end Go.Proofs.YtnblmhfgmehnnaaGreatDoor

/- parse's answers at given texts, computed. -/
namespace Go.Proofs.YtnblmhfgmehnnaaGreatDoor
open Go.RowKit Go.Lib

/-- Where two braces close, by fuel. -/
def closF : Nat → Bool → List UInt8 → Option Nat
  | 0, _, _ => none
  | _ + 1, _, [] => none
  | _ + 1, _, [_] => none
  | n + 1, false, a :: b :: l => if a = 125 ∧ b = 125 then some 0 else if a = 34 then (closF n true (b :: l)).map (· + 1) else (closF n false (b :: l)).map (· + 1)
  | n + 1, true, a :: b :: l => if a = 34 then (closF n false (b :: l)).map (· + 1) else if a = 92 then (closF n true l).map (· + 2) else (closF n true (b :: l)).map (· + 1)
theorem clos_fuel : ∀ (n : Nat) (q : Bool) (s : List UInt8), s.length < n → clos q s = closF n q s
  | 0, q, s, h => by omega
  | n + 1, q, [], h => by cases q <;> simp [clos, closF]
  | n + 1, q, [a], h => by cases q <;> simp [clos, closF]
  | n + 1, false, a :: b :: l, h => by
    simp only [List.length_cons] at h
    rw [clos, closF, clos_fuel n true (b :: l) (by simp only [List.length_cons]; omega), clos_fuel n false (b :: l) (by simp only [List.length_cons]; omega)]
  | n + 1, true, a :: b :: l, h => by
    simp only [List.length_cons] at h
    rw [clos, closF, clos_fuel n true (b :: l) (by simp only [List.length_cons]; omega), clos_fuel n false (b :: l) (by simp only [List.length_cons]; omega), clos_fuel n true l (by omega)]
def splitG : Nat → List UInt8 → Nat → Bool → Option (List Tok)
  | 0, _, _, _ => some []
  | n + 1, s, i, cut =>
    if s = [] then some [] else
    match find2 123 s with
    | none => some (txt (ahead cut s) (i + (s.length - (ahead cut s).length)))
    | some o =>
      match closF (s.length + 1) false (s.drop (o + 2)) with
      | none => none
      | some e =>
        (splitG n (s.drop (o + 2 + (e + 2))) (i + (o + 2 + (e + 2))) (dashR ((s.drop (o + 2)).take e))).map
          (fun r => txt (behind ((s.drop (o + 2)).take e) (ahead cut (s.take o))) (i + (o - (ahead cut (s.take o)).length)) ++ (actn (body ((s.drop (o + 2)).take e)) (i + o) ++ r))
theorem split_fuel : ∀ (n : Nat) (s : List UInt8) (i : Nat) (cut : Bool), splitM n s i cut = splitG n s i cut
  | 0, s, i, cut => rfl
  | n + 1, s, i, cut => by
    rw [splitM, splitG]
    split
    · rfl
    · cases hf : find2 123 s with
      | none => rfl
      | some o =>
        simp only [clos_fuel (s.length + 1) false (s.drop (o + 2)) (by rw [List.length_drop]; omega)]
        cases hc : closF (s.length + 1) false (s.drop (o + 2)) with
        | none => rfl
        | some e => simp only [split_fuel n]
def parseG (s : List UInt8) : List Nd × Int :=
  if 65536 < s.length then ([], 6)
  else match splitG (s.length + 1) s 0 false with
    | none => ([], 21)
    | some toks =>
      let q := nodesF (fuelN toks) [] ⟨toks, 0, 0⟩
      let m := if q.1.stop ≠ [] then q.2.fail 21 else q.2
      if m.bad = 0 then (q.1.out, 0) else ([], m.bad)
theorem parse_fuel (s : List UInt8) : parseF s = parseG s := by
  unfold parseF parseG
  rw [split_fuel]
  rfl
def exP : List UInt8 := [123, 123, 32, 105, 102, 32, 46, 97, 32, 125, 125, 120, 123, 123, 32, 101, 108, 115, 101, 32, 125, 125, 123, 123, 32, 46, 98, 32, 124, 32, 117, 112, 112, 101, 114, 32, 125, 125, 123, 123, 32, 101, 110, 100, 32, 125, 125]
def xA : Ex := .mk 1 T.zero ⟨#[]⟩ [bs [97]] []
def xB : Ex := .mk 1 T.zero ⟨#[]⟩ [bs [98]] []
theorem ex_parse : parseG exP = ([.mk 2 ⟨#[]⟩ xA ⟨#[]⟩ ⟨#[]⟩ [.mk 0 (bs [120]) Ex.zero ⟨#[]⟩ ⟨#[]⟩ [] []] [.mk 1 ⟨#[]⟩ (.mk 3 T.zero (bs [117, 112, 112, 101, 114]) [] [xB]) ⟨#[]⟩ ⟨#[]⟩ [] []]], 0) := by
  kernel_rfl
end Go.Proofs.YtnblmhfgmehnnaaGreatDoor

/- parse's laws: the document's example. -/
namespace Go.Proofs.YtnblmhfgmehnnaaGreatDoor
open Go.RowKit Go.Lib
attribute [local go_sem ↓] Go.wp_at_zero Go.wp_at_succ

/-- A row of one node. -/
theorem repNs_one {w : World} {S : Nat → Prop} {a : Option Addr} {n : Nd} (h : RepNs w S a [n]) : ∃ b o la lc ma mc sa sc aa ac ba bc ea ec, a = some ⟨b, o, none⟩ ∧ cellsAt w b o [.int .i64 n.kind, .string n.text, .int .i64 n.x.kind, .int .i64 n.x.val.kind, .bool n.x.val.bool, .int .i64 n.x.val.int, .string n.x.val.str, .slice la n.x.val.list.length lc, .slice ma n.x.val.map.length mc, .string n.x.name, .slice sa n.x.steps.length sc, .slice aa n.x.args.length ac, .string n.key, .string n.name, .slice ba n.body.length bc, .slice ea n.els.length ec] ∧ PartsN w S la lc ma mc sa sc aa ac ba bc ea ec n := by
  obtain ⟨b, o, cs, e, -, hc, hr⟩ := h 0 (Nat.lt_succ_self 0)
  obtain ⟨la, lc, ma, mc, sa, sc, aa, ac, ba, bc, ea, ec, rfl, hp⟩ := hr.inv
  rw [Nat.zero_mul, Nat.add_zero] at hc
  exact ⟨b, o, la, lc, ma, mc, sa, sc, aa, ac, ba, bc, ea, ec, e, hc, hp⟩
set_option maxRecDepth 100000 in
set_option maxHeartbeats 8000000 in
theorem tawake7 (w : World) (hm : MaxL w) (hv : ScalV w) : Calls Tryz.prog 10 #[] w fun e w' => e = .returned (.bool true) ∧ Below w.heap.size w w' := by
  have CS := tParse (bs exP) w (by decide) hm hv
  unfold PrPost at CS
  rw [bs_list, parse_fuel, ex_parse] at CS
  simp only at CS
  have CSH := Lib.hid CS
  clear CS hm hv
  go_enter Tryz.func10, Tryz.ntmps10
  go_wp2_with fail
  refine CSH.out.mono ?_
  rintro e w1 ⟨a, k, rfl, hr, -, hb⟩
  obtain ⟨b, o, la, lc, ma, mc, sa, sc, aa, ac, ba, bc, ea, ec, rfl, hc, hp⟩ := repNs_one hr
  obtain ⟨b2, o2, la2, lc2, ma2, mc2, sa2, sc2, aa2, ac2, ba2, bc2, ea2, ec2, rfl, hc2, hp2⟩ := repNs_one hp.els
  have HB := Lib.hid hb
  have c0 : w1.cell? ⟨b, o + 0, none⟩ = some (.int .i64 2) := hc 0 _ rfl
  have c14 : w1.cell? ⟨b, o + 14, none⟩ = some (.slice ba 1 bc) := hc 14 _ rfl
  have c15 : w1.cell? ⟨b, o + 15, none⟩ = some (.slice (some ⟨b2, o2, none⟩) 1 ec) := hc 15 _ rfl
  have d9 : w1.cell? ⟨b2, o2 + 9, none⟩ = some (.string ⟨#[117, 112, 112, 101, 114]⟩) := hc2 9 _ rfl
  have d11 : w1.cell? ⟨b2, o2 + 11, none⟩ = some (.slice aa2 1 ac2) := hc2 11 _ rfl
  rw [Nat.add_zero] at c0
  clear hb hr hc hp hc2 hp2 CSH
  simp only [List.length_singleton]
  go_wp2_with fail
  go_ret
  exact ⟨rfl, HB.out⟩
end Go.Proofs.YtnblmhfgmehnnaaGreatDoor

