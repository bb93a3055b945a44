/- TrimJoins answers true for every input: the law. (Printed by gen/trimj.py.) -/
import Derived.Test.YtpcfjlmcahakmaaDoorTrimK
import Derived.Test.YtpcfjlmcahakmaaDoorOpenS
namespace Go.Proofs.YtpcfjlmcahakmaaDoor
open Go.RowKit
attribute [local go_sem ↓] Go.wp_at_zero Go.wp_at_succ

theorem joinS_end : ∀ (ts ac : List (List UInt8)) (t : List UInt8), ts.length = ac.length → joinS (ts ++ [t]) ac = joinS (ts ++ [[]]) ac ++ t
  | [], [], t, _ => by simp [joinS]
  | t0 :: ts, a :: ac, t, h => by
    have ih := joinS_end ts ac t (by simpa using h)
    simp only [List.cons_append, joinS, ih]
    simp
  | [], _ :: _, t, h => by simp at h
  | _ :: _, [], t, h => by simp at h
theorem joinS_next : ∀ (ts ac : List (List UInt8)) (t a : List UInt8), ts.length = ac.length → joinS (ts ++ [t] ++ [[]]) (ac ++ [a]) = joinS (ts ++ [t]) ac ++ ([123, 123] ++ a ++ [125, 125])
  | [], [], t, a, _ => by simp [joinS]
  | t0 :: ts, a0 :: ac, t, a, h => by
    have ih := joinS_next ts ac t a (by simpa using h)
    simp only [List.cons_append, List.append_assoc, joinS] at ih ⊢
    rw [ih]
    try simp
  | [], _ :: _, t, a, h => by simp at h
  | _ :: _, [], t, a, h => by simp at h
theorem wantS_end : ∀ (ts ac : List (List UInt8)) (t : List UInt8) (i : Nat), ts.length = ac.length → wantS (ts ++ [t]) ac i = wantS (ts ++ [[]]) ac i ++ txt t (i + (joinS (ts ++ [[]]) ac).length)
  | [], [], t, i, _ => by simp [joinS, wantS, txt]
  | t0 :: ts, a :: ac, t, i, h => by
    have ih := wantS_end ts ac t (i + (t0.length + 2 + (a.length + 2))) (by simpa using h)
    simp only [List.cons_append, joinS, wantS, ih]
    have e : i + (t0.length + 2 + (a.length + 2)) + (joinS (ts ++ [[]]) ac).length = i + (t0 ++ 123 :: 123 :: (a ++ 125 :: 125 :: joinS (ts ++ [[]]) ac)).length := by simp; omega
    rw [e]
    simp
  | [], _ :: _, t, i, h => by simp at h
  | _ :: _, [], t, i, h => by simp at h
theorem wantS_next : ∀ (ts ac : List (List UInt8)) (t a : List UInt8) (i : Nat), ts.length = ac.length → wantS (ts ++ [t] ++ [[]]) (ac ++ [a]) i = wantS (ts ++ [t]) ac i ++ [⟨true, a, i + (joinS (ts ++ [t]) ac).length⟩]
  | [], [], t, a, i, _ => by simp [joinS, wantS, txt]
  | t0 :: ts, a0 :: ac, t, a, i, h => by
    have ih := wantS_next ts ac t a (i + (t0.length + 2 + (a0.length + 2))) (by simpa using h)
    simp only [List.cons_append, List.append_assoc, joinS, wantS] at ih ⊢
    rw [ih]
    have e : i + (t0.length + 2 + (a0.length + 2)) + (joinS (ts ++ [t]) ac).length = i + (t0 ++ 123 :: 123 :: (a0 ++ 125 :: 125 :: joinS (ts ++ [t]) ac)).length := by simp; omega
    rw [e]
    try simp
  | [], _ :: _, t, a, i, h => by simp at h
  | _ :: _, [], t, a, i, h => by simp at h

/-- The texts' bytes. -/
def lst (l : List ByteArray) : List (List UInt8) := l.map (·.data.toList)
theorem lst_take {l : List ByteArray} {q : Nat} (h : q < l.length) : lst (l.take (q + 1)) = lst (l.take q) ++ [l[q].data.toList] := by
  unfold lst; rw [List.take_succ_eq_append_getElem h, List.map_append]; rfl
theorem lst_len {l : List ByteArray} {q : Nat} (h : q ≤ l.length) : (lst (l.take q)).length = q := by unfold lst; simp; omega

/-- How things stand when q texts and actions are laid. -/
structure JInv (l0 l1 : List ByteArray) (q : Nat) (s : ByteArray) (want : List Tok) : Prop where
  le : q ≤ l1.length
  str : s.data.toList = joinS (lst (l0.take q) ++ [[]]) (lst (l1.take q))
  wnt : want = wantS (lst (l0.take q) ++ [[]]) (lst (l1.take q)) 0
  fine : ∀ t ∈ lst (l0.take q), Fine t
  word : ∀ a ∈ lst (l1.take q), Word a
  size : s.size ≤ 304 * q
  few : want.length ≤ 2 * q
/-- One more text. -/
theorem JInv.text {l0 l1 : List ByteArray} {q : Nat} {s : ByteArray} {want : List Tok} (h : JInv l0 l1 q s want) (hq : q < l0.length) (hf : Fine l0[q].data.toList) :
    (s ++ l0[q]).data.toList = joinS (lst (l0.take q) ++ [l0[q].data.toList]) (lst (l1.take q)) ∧ want ++ txt l0[q].data.toList s.size = wantS (lst (l0.take q) ++ [l0[q].data.toList]) (lst (l1.take q)) 0 ∧ (∀ t ∈ lst (l0.take q) ++ [l0[q].data.toList], Fine t) := by
  have hl : (lst (l0.take q)).length = (lst (l1.take q)).length := by rw [lst_len (by omega), lst_len h.le]
  refine ⟨by rw [app_list, h.str, ← joinS_end _ _ _ hl], ?_, ?_⟩
  · rw [wantS_end _ _ _ _ hl, ← h.wnt, ← h.str, Nat.zero_add, ← size_list]
  · intro t ht
    rcases List.mem_append.1 ht with ht | ht
    · exact h.fine t ht
    · rw [List.mem_singleton] at ht; subst ht; exact hf
/-- What ends there is split as wanted. -/
theorem split_end {ts ac : List (List UInt8)} {s : ByteArray} {want : List Tok} (hs : s.data.toList = joinS ts ac) (hw : want = wantS ts ac 0) (hf : ∀ t ∈ ts, Fine t) (ha : ∀ a ∈ ac, Word a) : splitM (s.size + 1) s.data.toList 0 false = some want := by
  rw [hs, hw]
  exact law_joins ts ac _ _ (by rw [← hs, ← size_list]; omega) hf ha
theorem JInv.done {l0 l1 : List ByteArray} {q : Nat} {s : ByteArray} {want : List Tok} (h : JInv l0 l1 q s want) : splitM (s.size + 1) s.data.toList 0 false = some want :=
  split_end h.str h.wnt (fun t ht => by
    rcases List.mem_append.1 ht with ht | ht
    · exact h.fine t ht
    · rw [List.mem_singleton] at ht; subst ht; exact fine_nil) h.word
theorem JInv.break {l0 l1 : List ByteArray} {q : Nat} {s : ByteArray} {want : List Tok} (h : JInv l0 l1 q s want) (hq : q < l0.length) (hf : Fine l0[q].data.toList) : splitM ((s ++ l0[q]).size + 1) (s ++ l0[q]).data.toList 0 false = some (want ++ txt l0[q].data.toList s.size) :=
  split_end (h.text hq hf).1 (h.text hq hf).2.1 (h.text hq hf).2.2 h.word
/-- One more text and one more action. -/
theorem JInv.step {l0 l1 : List ByteArray} {q : Nat} {s : ByteArray} {want : List Tok} (h : JInv l0 l1 q s want) (hq : q < l0.length) (hf : Fine l0[q].data.toList) (hz : l0[q].size ≤ 200) (hq1 : q < l1.length) (hw : Word l1[q].data.toList) (hz1 : l1[q].size ≤ 100) :
    JInv l0 l1 (q + 1) (s ++ l0[q] ++ (⟨#[123, 123]⟩ ++ l1[q] ++ ⟨#[125, 125]⟩)) (want ++ txt l0[q].data.toList s.size ++ [(⟨true, l1[q].data.toList, (s ++ l0[q]).size⟩ : Tok)]) := by
  have hl : (lst (l0.take q)).length = (lst (l1.take q)).length := by rw [lst_len (by omega), lst_len h.le]
  obtain ⟨h1, h2, h3⟩ := h.text hq hf
  refine ⟨by omega, ?_, ?_, ?_, ?_, ?_, ?_⟩
  · rw [lst_take hq, lst_take hq1, joinS_next _ _ _ _ hl, ← h1]; simp
  · rw [lst_take hq, lst_take hq1, wantS_next _ _ _ _ _ hl, ← h2, ← h1, Nat.zero_add, ← size_list]
  · rw [lst_take hq]; exact h3
  · rw [lst_take hq1]
    intro a ha
    rcases List.mem_append.1 ha with ha | ha
    · exact h.word a ha
    · rw [List.mem_singleton] at ha; subst ha; exact hw
  · have h4 := h.size
    have h5 : (⟨#[123, 123]⟩ : ByteArray).size = 2 := rfl
    have h6 : (⟨#[125, 125]⟩ : ByteArray).size = 2 := rfl
    simp only [ByteArray.size_append]
    omega
  · have h4 := h.few
    have h5 : (txt l0[q].data.toList s.size).length ≤ 1 := by unfold txt; split <;> simp
    simp only [List.length_append, List.length_cons, List.length_nil]
    omega
theorem take_byte' {s : ByteArray} {k : Nat} (h : k < s.size) : s.data.toList.take (k + 1) = s.data.toList.take k ++ [s[k]] := by
  have hl : k < s.data.toList.length := by simpa using h
  rw [List.take_succ_eq_append_getElem hl]; rfl
/-- The first bytes of an action are as they should be. -/
def GoodTo (v : ByteArray) (k : Nat) : Prop := (0 < k → v.size ≤ 100) ∧ ∀ c ∈ v.data.toList.take k, 32 < c ∧ c ≠ 123 ∧ c ≠ 125 ∧ c ≠ 34 ∧ c ≠ 45 ∧ c ≠ 47

theorem u8_lt {a : UInt8} {n : Nat} (hn : n < 256) (h : (n : Int) < (a.toNat : Int)) : (UInt8.ofNat n) < a := by
  rw [UInt8.lt_iff_toNat_lt, UInt8.toNat_ofNat']; omega

set_option maxRecDepth 100000 in
set_option maxHeartbeats 20000000 in
theorem joinsL (l0 l1 : List ByteArray) (a0 a1 : Option Addr) (c0 c1 : Nat) (w : World) (h0 : RepS w (fun _ => True) a0 l0) (h1 : RepS w (fun _ => True) a1 l1) (z0 : l0.length * 16 ≤ 140737488355328) (z1 : l1.length * 16 ≤ 140737488355328) (hm : MaxL w) :
    Calls Tryd.prog 5 #[.slice a0 l0.length c0, .slice a1 l1.length c1] w fun e w' => e = .returned (.bool true) ∧ Below w.heap.size w w' := by
  have HM := Lib.hid hm; have H0 := Lib.hid h0; have H1 := Lib.hid h1
  clear hm h0 h1
  by_cases hz : l0.length ≤ 20
  case neg =>
    have hz1 : (20 : Int) < (l0.length : Int) := by omega
    go_enter Tryd.func5, Tryd.ntmps5
    go_wp2_with (go_at_call 10; refine (tawake _ HM.out).mono ?_; rintro e w9 ⟨rfl, hb9⟩)
    go_ret
    exact ⟨rfl, hb9⟩
  have hz1 : (l0.length : Int) ≤ 20 := by omega
  by_cases hy : l1.length ≤ 20
  case neg =>
    have hy1 : (20 : Int) < (l1.length : Int) := by omega
    go_enter Tryd.func5, Tryd.ntmps5
    go_wp2_with (go_at_call 10; refine (tawake _ HM.out).mono ?_; rintro e w9 ⟨rfl, hb9⟩)
    go_ret
    exact ⟨rfl, hb9⟩
  have hy1 : (l1.length : Int) ≤ 20 := by omega
  go_enter Tryd.func5, Tryd.ntmps5
  go_wp2_with fail
  go_loopw [5, 6, 27] (fun x5 x6 x27 wr => ∃ (s : ByteArray) (want : List Tok) (A : Option Addr) (c q : Nat), x5 = .string s ∧ x6 = .slice A want.length c ∧ x27 = .int .i64 q ∧ q ≤ l0.length ∧ Hid (JInv l0 l1 q s want) ∧ Hid (OwnE eltK wr w.heap.size (fun _ => False) A c want) ∧ Hid (Below w.heap.size w wr)) (fun _ _ x27 _ => l0.length - (intOf x27).toNat)
  case atStart => exact ⟨_, [], none, 0, 0, rfl, rfl, rfl, Nat.zero_le _, Lib.hid ⟨Nat.zero_le _, rfl, rfl, by simp [lst], by simp [lst], Nat.zero_le _, Nat.zero_le _⟩, Lib.hid OwnE.nil, Lib.hid (Below.refl _ _)⟩
  case round =>
    obtain ⟨s, want, A, c, q, rfl, rfl, rfl, hq, hj, ho, hbl⟩ := hrel
    have HJ := Lib.hid hj.out; have HO := Lib.hid ho.out; have HBL := Lib.hid hbl.out
    clear hj ho hbl
    have hss : s.size ≤ 7000 := by have := HJ.out.size; omega
    have hwl : want.length ≤ 50 := by have := HJ.out.few; omega
    by_cases hlt : q < l0.length
    · have hq2 : (q : Int) < (l0.length : Int) := by omega
      obtain ⟨b0, o0, rfl, -, hb0, xt, htz⟩ := H0.out q hlt
      have xt' := (HBL.out.cell (p := ⟨b0, o0 + q, none⟩) hb0).trans xt
      obtain ⟨tv, htv⟩ : ∃ v, v = l0[q] := ⟨_, rfl⟩
      rw [← htv] at xt xt' htz
      have HTV := Lib.hid htv
      clear htv xt
      by_cases hz2 : tv.size ≤ 200
      case neg =>
        have hz3 : (200 : Int) < (tv.size : Int) := by omega
        go_wp2_with (go_at_call 10; refine (tawake _ (HM.out.keep HBL.out)).mono ?_; rintro e w9 ⟨rfl, hb9⟩)
        go_ret
        exact ⟨rfl, Below.next HBL.out hb9⟩
      have hz3 : (tv.size : Int) ≤ 200 := by omega
      obtain ⟨pb, hpb⟩ : ∃ d, d = plain tv := ⟨_, rfl⟩
      obtain ⟨sx, hsx⟩ : ∃ d, d = Lib.hasSuffix tv.data.toList [123] := ⟨_, rfl⟩
      have CP := Lib.hid (show Calls Tryd.prog 8 #[.string tv] wr (fun e w' => e = .returned (.bool pb) ∧ wr = w') from hpb ▸ tplain tv wr (by omega) (HM.out.keep HBL.out))
      have CX := Lib.hid (show Calls Tryd.prog 9 #[.string tv, .string ⟨#[123]⟩] wr (fun e w' => e = .returned (.bool sx) ∧ wr = w') from hsx ▸ tsuffix tv ⟨#[123]⟩ wr (by omega))
      have HP := Lib.hid hpb; have HX := Lib.hid hsx
      clear hpb hsx
      cases pb
      · go_wp2_with (first | (go_at_call 8; refine CP.out.mono ?_; rintro e w9 ⟨rfl, rfl⟩) | (go_at_call 10; refine (tawake _ (HM.out.keep HBL.out)).mono ?_; rintro e w9 ⟨rfl, hb9⟩))
        go_ret
        exact ⟨rfl, Below.next HBL.out hb9⟩
      cases sx
      case true =>
        go_wp2_with (first | (go_at_call 8; refine CP.out.mono ?_; rintro e w9 ⟨rfl, rfl⟩) | (go_at_call 9; refine CX.out.mono ?_; rintro e w9 ⟨rfl, rfl⟩) | (go_at_call 10; refine (tawake _ (HM.out.keep HBL.out)).mono ?_; rintro e w9 ⟨rfl, hb9⟩))
        go_ret
        exact ⟨rfl, Below.next HBL.out hb9⟩
      have HF := Lib.hid (show Fine l0[q].data.toList from HTV.out ▸ fine_of HP.out.symm HX.out.symm)
      clear HP HX
      obtain ⟨want2, hw2⟩ : ∃ l, l = want ++ txt tv.data.toList s.size := ⟨_, rfl⟩
      have hw2l : want2.length ≤ 51 := by have h5 : (txt tv.data.toList s.size).length ≤ 1 := by { unfold txt; split <;> simp }; rw [hw2, List.length_append]; omega
      have HW2 := Lib.hid hw2
      clear hw2
      go_upto_if 46 with (first | (go_at_call 8; refine CP.out.mono ?_; rintro e w9 ⟨rfl, rfl⟩) | (go_at_call 9; refine CX.out.mono ?_; rintro e w9 ⟨rfl, rfl⟩))
      clear CP CX
      go_cut [6] (fun x6 wx => ∃ (A2 : Option Addr) (c2 : Nat), x6 = .slice A2 want2.length c2 ∧ Hid (OwnE eltK wx w.heap.size (fun _ => False) A2 c2 want2) ∧ Hid (Below w.heap.size w wx))
      case first =>
        by_cases he : tv.data.toList = []
        · have e0 : tv.toList.isEmpty = true := by rw [ByteArray.toList_eq, he]; rfl
          have hww : want2 = want := by rw [HW2.out, txt, if_pos he, List.append_nil]
          subst hww
          clear he
          simp only [e0, Bool.not_true]
          go_wp2_with fail
          go_meet
          exact ⟨A, c, rfl, HO, HBL⟩
        · have e0 : tv.toList.isEmpty = false := by rw [ByteArray.toList_eq]; simpa using he
          obtain ⟨A2, c2, w5, hrun, hown, hgr⟩ := tok_appendv false tv s.size HO.out (by omega) (by omega) HBL.out.size
          have hww : want ++ [(⟨false, tv.data.toList, s.size⟩ : Tok)] = want2 := by rw [HW2.out, txt, if_neg he]
          rw [hww] at hrun hown
          have HO2 := Lib.hid hown; have HG := Lib.hid hgr
          clear hown hgr hww he
          simp only [e0, Bool.not_false]
          go_wp2_with (at_builtin; refine wpList_append_run rfl (.tmp 47) (.tmp 52) 25 rfl hrun rfl rfl ?_)
          go_meet
          exact ⟨A2, c2, rfl, HO2, Lib.hid (HBL.out.trans HG.out)⟩
      case rest =>
        obtain ⟨A2, c2, rfl, ho2, hb2⟩ := hcut
        have HO2 := Lib.hid ho2.out; have HB2 := Lib.hid hb2.out
        clear ho2 hb2 HO xt'
        obtain ⟨wb, ewb⟩ : ∃ z, z = wc := ⟨_, rfl⟩
        subst ewb
        obtain ⟨s2, hs2⟩ : ∃ x, x = s ++ tv := ⟨_, rfl⟩
        have hs2z : s2.size ≤ 7300 := by rw [hs2, ByteArray.size_append]; omega
        have HS2 := Lib.hid hs2
        clear hs2
        go_upto_if 60 with (fail)
        rw [← HS2.out]
        by_cases hq1 : q < l1.length
        · have hq3 : (q : Int) < (l1.length : Int) := by omega
          obtain ⟨b1, o1, rfl, -, hb1, xa, haz⟩ := H1.out q hq1
          have xa' := (HB2.out.cell (p := ⟨b1, o1 + q, none⟩) hb1).trans xa
          obtain ⟨av, hav⟩ : ∃ v, v = l1[q] := ⟨_, rfl⟩
          rw [← hav] at xa xa' haz
          have HAV := Lib.hid hav
          clear hav xa
          go_wp2_with fail
          go_loop [67] (fun x => ∃ k : Nat, x = .int .i64 k ∧ k ≤ av.size ∧ Hid (GoodTo av k)) (fun x => av.size - (intOf x).toNat)
          case atStart => exact ⟨0, rfl, Nat.zero_le _, Lib.hid ⟨fun h => by omega, by simp⟩⟩
          case round =>
            obtain ⟨k, rfl, hk, hgd⟩ := hrel
            have HGD := Lib.hid hgd.out
            clear hgd
            by_cases hkl : k < av.size
            · have hk2 : (k : Int) < (av.size : Int) := by omega
              have h256 := UInt8.toNat_lt av[k]
              by_cases hz4 : av.size ≤ 100
              case neg =>
                have hz5 : (100 : Int) < (av.size : Int) := by omega
                go_wp2_with (go_at_call 10; refine (tawake _ (HM.out.keep HB2.out)).mono ?_; rintro e w9 ⟨rfl, hb9⟩)
                go_ret
                exact ⟨rfl, Below.next HB2.out hb9⟩
              have hz5 : (av.size : Int) ≤ 100 := by omega
              by_cases c1 : (av[k].toNat : Int) ≤ 32
              · go_wp2_with (go_at_call 10; refine (tawake _ (HM.out.keep HB2.out)).mono ?_; rintro e w9 ⟨rfl, hb9⟩)
                go_ret
                exact ⟨rfl, Below.next HB2.out hb9⟩
              have d1 : (32 : Int) < (av[k].toNat : Int) := by omega
              by_cases e0 : av[k] = 123
              · have f0 : ((av[k].toNat : Int) == 123) = true := by rw [e0]; rfl
                clear e0
                go_wp2_with (go_at_call 10; refine (tawake _ (HM.out.keep HB2.out)).mono ?_; rintro e w9 ⟨rfl, hb9⟩)
                go_ret
                exact ⟨rfl, Below.next HB2.out hb9⟩
              have f0 : ((av[k].toNat : Int) == 123) = false := beq_eq_false_iff_ne.2 (fun h => e0 (UInt8.toNat_inj.1 (by show _ = 123; omega)))
              by_cases e1 : av[k] = 125
              · have f1 : ((av[k].toNat : Int) == 125) = true := by rw [e1]; rfl
                clear e1
                go_wp2_with (go_at_call 10; refine (tawake _ (HM.out.keep HB2.out)).mono ?_; rintro e w9 ⟨rfl, hb9⟩)
                go_ret
                exact ⟨rfl, Below.next HB2.out hb9⟩
              have f1 : ((av[k].toNat : Int) == 125) = false := beq_eq_false_iff_ne.2 (fun h => e1 (UInt8.toNat_inj.1 (by show _ = 125; omega)))
              by_cases e2 : av[k] = 34
              · have f2 : ((av[k].toNat : Int) == 34) = true := by rw [e2]; rfl
                clear e2
                go_wp2_with (go_at_call 10; refine (tawake _ (HM.out.keep HB2.out)).mono ?_; rintro e w9 ⟨rfl, hb9⟩)
                go_ret
                exact ⟨rfl, Below.next HB2.out hb9⟩
              have f2 : ((av[k].toNat : Int) == 34) = false := beq_eq_false_iff_ne.2 (fun h => e2 (UInt8.toNat_inj.1 (by show _ = 34; omega)))
              by_cases e3 : av[k] = 45
              · have f3 : ((av[k].toNat : Int) == 45) = true := by rw [e3]; rfl
                clear e3
                go_wp2_with (go_at_call 10; refine (tawake _ (HM.out.keep HB2.out)).mono ?_; rintro e w9 ⟨rfl, hb9⟩)
                go_ret
                exact ⟨rfl, Below.next HB2.out hb9⟩
              have f3 : ((av[k].toNat : Int) == 45) = false := beq_eq_false_iff_ne.2 (fun h => e3 (UInt8.toNat_inj.1 (by show _ = 45; omega)))
              by_cases e4 : av[k] = 47
              · have f4 : ((av[k].toNat : Int) == 47) = true := by rw [e4]; rfl
                clear e4
                go_wp2_with (go_at_call 10; refine (tawake _ (HM.out.keep HB2.out)).mono ?_; rintro e w9 ⟨rfl, hb9⟩)
                go_ret
                exact ⟨rfl, Below.next HB2.out hb9⟩
              have f4 : ((av[k].toNat : Int) == 47) = false := beq_eq_false_iff_ne.2 (fun h => e4 (UInt8.toNat_inj.1 (by show _ = 47; omega)))
              have HGN := Lib.hid (show GoodTo av (k + 1) from ⟨fun _ => hz4, fun c hc => by
                rw [take_byte' hkl] at hc
                rcases List.mem_append.1 hc with hc | hc
                · exact HGD.out.2 c hc
                · rw [List.mem_singleton] at hc
                  subst hc
                  exact ⟨u8_lt (n := 32) (by omega) d1, e0, e1, e2, e3, e4⟩⟩)
              clear e0 e1 e2 e3 e4
              go_wp2_with fail
              go_round
              case rel => exact ⟨_, _, _, .int .i64 ((k + 1 : Nat) : Int), ⟨k + 1, rfl, by omega, HGN⟩, rfl, rfl, rfl, by go_num⟩
              case measure => simp [intOf]; omega
            · have hke : k = av.size := by omega
              have hge : (av.size : Int) ≤ (k : Int) := by omega
              have HWD := Lib.hid (show Word av.data.toList ∧ av.size ≤ 100 from by
                have h2 := HGD.out.2
                rw [hke, size_list, List.take_length] at h2
                refine ⟨h2, ?_⟩
                by_cases h0 : 0 < k
                · exact HGD.out.1 h0
                · omega)
              have haz2 : av.size ≤ 100 := HWD.out.2
              clear hke HGD
              obtain ⟨A3, c3, w6, hrun, hown, hgr⟩ := tok_appendv true av s2.size HO2.out (by omega) (by omega) HB2.out.size
              obtain ⟨want3, hw3⟩ : ∃ l, l = want2 ++ [(⟨true, av.data.toList, s2.size⟩ : Tok)] := ⟨_, rfl⟩
              rw [← hw3] at hrun hown
              have HO3 := Lib.hid hown; have HG := Lib.hid hgr; have HW3 := Lib.hid hw3
              clear hown hgr hw3
              go_wp2_with (at_builtin; refine wpList_append_run rfl (.tmp 102) (.tmp 107) 25 rfl hrun rfl rfl ?_)
              go_round
              case rel => exact ⟨s2 ++ (⟨#[123, 123]⟩ ++ av ++ ⟨#[125, 125]⟩), want3, A3, c3, q + 1, rfl, rfl, by go_num, by omega, Lib.hid (by
                have h9 := HJ.out.step hlt HF.out (by rw [← HTV.out]; exact hz2) hq1 (by rw [← HAV.out]; exact HWD.out.1) (by rw [← HAV.out]; exact haz2)
                rw [← HTV.out, ← HAV.out, ← HS2.out, ← HW2.out, ← HW3.out] at h9
                exact h9), HO3, Lib.hid (HB2.out.trans HG.out)⟩
              case measure => simp [intOf]; omega
        · have hge : (l1.length : Int) ≤ (q : Int) := by omega
          have HSP := Lib.hid (show splitM (s2.size + 1) s2.data.toList 0 false = some want2 from by rw [HS2.out, HW2.out, HTV.out]; exact HJ.out.break hlt HF.out)
          have hsz : s2.size ≤ 65536 := by omega
          have HBW := HB2
          go_wp2_with fail
          refine (tsplit_ok _ hsz (HM.out.keep HBW.out) HSP.out).mono ?_
          rintro e w5 ⟨A5, c5, rfl, hr5, hd1, hd2, hb5⟩
          have HR5 := Lib.hid hr5; have HW5 := Lib.hid ((HO2.out.keep hb5).rep); have HB5 := Lib.hid (Below.next HBW.out hb5)
          have HC5 := Lib.hid (HO2.out.len)
          clear hr5 hb5 HO2
          have hwl0 : (0 : Int) ≤ (want2.length : Int) := by omega
          have hwl2 : want2.length ≤ c5 := hd1
          have hwl3 : (want2.length : Int) ≤ 1000000 := by omega
          go_wp2_with fail
          go_loopw [129] (fun x wr => ∃ q : Nat, x = .int .i64 q ∧ q ≤ want2.length ∧ Hid (RepE eltK wr (fun _ => True) A5 want2) ∧ Hid (RepE eltK wr (fun _ => True) A2 want2) ∧ Hid (Below w.heap.size w wr)) (fun x _ => want2.length - (intOf x).toNat)
          case atStart => exact ⟨0, rfl, Nat.zero_le _, Lib.hid (HR5.out.weak (fun _ _ _ => trivial)), Lib.hid (HW5.out.weak (fun _ _ _ => trivial)), HB5⟩
          case round =>
            obtain ⟨q, rfl, hq, hra, hrb, hbr⟩ := hrel
            have HRA := Lib.hid hra.out; have HRB := Lib.hid hrb.out; have HBR := Lib.hid hbr.out
            clear hra hrb hbr HR5 HW5 HB5 HBW
            by_cases hlt : q < want2.length
            · have hq2 : (q : Int) < (want2.length : Int) := by omega
              have hq1 : (0 : Int) ≤ (q : Int) := by omega
              have hne : want2 ≠ [] := fun e => by rw [e] at hlt; simp at hlt
              obtain ⟨b5, o5, rfl, -, hbl5, hcell5⟩ := rep_tok HRA.out hne
              obtain ⟨b6, o6, rfl, -, hbl6, hcell6⟩ := rep_tok HRB.out hne
              obtain ⟨x0, x1, x2⟩ := hcell5 q _ (List.getElem?_eq_getElem hlt)
              obtain ⟨y0, y1, y2⟩ := hcell6 q _ (List.getElem?_eq_getElem hlt)
              obtain ⟨ta, hta⟩ : ∃ v, v = want2[q].act := ⟨_, rfl⟩
              obtain ⟨tv, htv⟩ : ∃ v : ByteArray, v = ⟨want2[q].s.toArray⟩ := ⟨_, rfl⟩
              obtain ⟨tn, htn⟩ : ∃ v : Int, v = (want2[q].at_ : Int) := ⟨_, rfl⟩
              rw [← hta] at x0 y0
              rw [← htv] at x1 y1
              rw [← htn] at x2 y2
              clear hta htv htn hcell5 hcell6 hne
              go_wp2_with fail
              go_region
              all_goals go_wp2_with fail
              all_goals go_round
              case rel => exact ⟨q + 1, by go_num, by omega, Lib.hid (HRA.out.keep (Below.new _ _).drew), Lib.hid (HRB.out.keep (Below.new _ _).drew), Lib.hid (Below.next HBR.out (Below.new _ _).drew)⟩
              case measure => simp [intOf]; omega
            · have hge : (want2.length : Int) ≤ (q : Int) := by omega
              go_wp2_with fail
              refine (tawake _ (HM.out.keep HBR.out)).mono ?_
              rintro e w6 ⟨rfl, hb6⟩
              have HB6 := Lib.hid (Below.next HBR.out hb6)
              clear hb6
              go_wp2_with fail
              go_ret
              exact ⟨rfl, HB6.out⟩
    · have hge : (l0.length : Int) ≤ (q : Int) := by omega
      have HSP := Lib.hid HJ.out.done
      have hsz : s.size ≤ 65536 := by omega
      have HBW := HBL
      go_wp2_with fail
      refine (tsplit_ok _ hsz (HM.out.keep HBW.out) HSP.out).mono ?_
      rintro e w5 ⟨A5, c5, rfl, hr5, hd1, hd2, hb5⟩
      have HR5 := Lib.hid hr5; have HW5 := Lib.hid ((HO.out.keep hb5).rep); have HB5 := Lib.hid (Below.next HBW.out hb5)
      have HC5 := Lib.hid (HO.out.len)
      clear hr5 hb5 HO
      have hwl0 : (0 : Int) ≤ (want.length : Int) := by omega
      have hwl2 : want.length ≤ c5 := hd1
      have hwl3 : (want.length : Int) ≤ 1000000 := by omega
      go_wp2_with fail
      go_loopw [129] (fun x wr => ∃ q : Nat, x = .int .i64 q ∧ q ≤ want.length ∧ Hid (RepE eltK wr (fun _ => True) A5 want) ∧ Hid (RepE eltK wr (fun _ => True) A want) ∧ Hid (Below w.heap.size w wr)) (fun x _ => want.length - (intOf x).toNat)
      case atStart => exact ⟨0, rfl, Nat.zero_le _, Lib.hid (HR5.out.weak (fun _ _ _ => trivial)), Lib.hid (HW5.out.weak (fun _ _ _ => trivial)), HB5⟩
      case round =>
        obtain ⟨q, rfl, hq, hra, hrb, hbr⟩ := hrel
        have HRA := Lib.hid hra.out; have HRB := Lib.hid hrb.out; have HBR := Lib.hid hbr.out
        clear hra hrb hbr HR5 HW5 HB5 HBW
        by_cases hlt : q < want.length
        · have hq2 : (q : Int) < (want.length : Int) := by omega
          have hq1 : (0 : Int) ≤ (q : Int) := by omega
          have hne : want ≠ [] := fun e => by rw [e] at hlt; simp at hlt
          obtain ⟨b5, o5, rfl, -, hbl5, hcell5⟩ := rep_tok HRA.out hne
          obtain ⟨b6, o6, rfl, -, hbl6, hcell6⟩ := rep_tok HRB.out hne
          obtain ⟨x0, x1, x2⟩ := hcell5 q _ (List.getElem?_eq_getElem hlt)
          obtain ⟨y0, y1, y2⟩ := hcell6 q _ (List.getElem?_eq_getElem hlt)
          obtain ⟨ta, hta⟩ : ∃ v, v = want[q].act := ⟨_, rfl⟩
          obtain ⟨tv, htv⟩ : ∃ v : ByteArray, v = ⟨want[q].s.toArray⟩ := ⟨_, rfl⟩
          obtain ⟨tn, htn⟩ : ∃ v : Int, v = (want[q].at_ : Int) := ⟨_, rfl⟩
          rw [← hta] at x0 y0
          rw [← htv] at x1 y1
          rw [← htn] at x2 y2
          clear hta htv htn hcell5 hcell6 hne
          go_wp2_with fail
          go_region
          all_goals go_wp2_with fail
          all_goals go_round
          case rel => exact ⟨q + 1, by go_num, by omega, Lib.hid (HRA.out.keep (Below.new _ _).drew), Lib.hid (HRB.out.keep (Below.new _ _).drew), Lib.hid (Below.next HBR.out (Below.new _ _).drew)⟩
          case measure => simp [intOf]; omega
        · have hge : (want.length : Int) ≤ (q : Int) := by omega
          go_wp2_with fail
          refine (tawake _ (HM.out.keep HBR.out)).mono ?_
          rintro e w6 ⟨rfl, hb6⟩
          have HB6 := Lib.hid (Below.next HBR.out hb6)
          clear hb6
          go_wp2_with fail
          go_ret
          exact ⟨rfl, HB6.out⟩
end Go.Proofs.YtpcfjlmcahakmaaDoor
