/- Several texts as one. -/
import Derived.Test.YtdgeegfoocoohaaDoorScTB
import Derived.Test.YtdgeegfoocoohaaDoorObjWR
import Derived.Test.YtdgeegfoocoohaaDoorPartsT
import Derived.Test.YtdgeegfoocoohaaDoorNeat
import Derived.Lib.IndexAny
import Derived.Deep.CutRange
import Derived.Deep.Cut
import Derived.Deep.RegionWith
import Derived.Test.YtdgeegfoocoohaaDoorLaw
/- object.Right, object.Of (printed by gen/objof.py). -/
namespace Go.Proofs.YtdgeegfoocoohaaDoor
open Go.RowKit
attribute [local go_sem ↓] Go.wp_at_zero Go.wp_at_succ

theorem cell_far {w : World} {g k b i : Nat} {u : Value} (h : b ≠ g) : (w.setCell ⟨g, k, none⟩ u).cell? ⟨b, i, none⟩ = w.cell? ⟨b, i, none⟩ := World.cell?_of_block (Below.heap_setCell w ⟨g, k, none⟩ u b h)
theorem word_cases (s : ByteArray) : (bareL s.data.toList = false ∧ ¬ wordL s.data.toList) ∨ (bareL s.data.toList = true ∧ decide (0 ≤ Lib.indexByte s.data.toList 47) = true ∧ ¬ wordL s.data.toList) ∨
    (bareL s.data.toList = true ∧ decide (0 ≤ Lib.indexByte s.data.toList 47) = false ∧ 64 < s.size ∧ ¬ wordL s.data.toList) ∨ (bareL s.data.toList = true ∧ decide (0 ≤ Lib.indexByte s.data.toList 47) = false ∧ s.size ≤ 64 ∧ wordL s.data.toList) := by
  have hc := Lib.contains_iff_indexByte s.data.toList 47
  cases hb : bareL s.data.toList with
  | false => exact .inl ⟨rfl, fun h => by rw [h.2.1] at hb; cases hb⟩
  | true =>
    by_cases h : (47 : UInt8) ∈ s.data.toList
    · exact .inr (.inl ⟨rfl, by rw [← hc]; simpa using h, fun h2 => h2.1 h⟩)
    · have h2 : decide (0 ≤ Lib.indexByte s.data.toList 47) = false := by rw [← hc]; simpa using h
      by_cases hz : s.size ≤ 64
      · exact .inr (.inr (.inr ⟨rfl, h2, hz, h, hb, by rw [← size_list]; exact hz⟩))
      · exact .inr (.inr (.inl ⟨rfl, h2, by omega, fun h3 => hz (by rw [size_list]; exact h3.2.2)⟩))
theorem tcontains (s : ByteArray) (b : Bool) (h : decide (0 ≤ Lib.indexByte s.data.toList 47) = b) (w : World) : Calls Tryd.prog 36 #[.string s, .string ⟨#[47]⟩] w fun e w' => e = .returned (.bool b) ∧ w = w' :=
  (Tryd.strings_Contains_one s 47 w).mono fun e w' ⟨h1, h2⟩ => ⟨by rw [h1, h], h2.symm⟩
def wordAt (a : ID3) : Nat → ByteArray
  | 0 => a.k
  | 1 => a.s
  | _ => a.n
theorem right_at (a : ID3) : Right3 a ↔ ∀ j, j < 3 → wordL (wordAt a j).data.toList := by
  constructor
  · intro h j hj
    have : j = 0 ∨ j = 1 ∨ j = 2 := by omega
    rcases this with rfl | rfl | rfl
    · exact h.1
    · exact h.2.1
    · exact h.2.2
  · intro h
    exact ⟨h 0 (by omega), h 1 (by omega), h 2 (by omega)⟩
set_option maxRecDepth 100000 in
set_option maxHeartbeats 8000000 in
theorem tright3 (a : ID3) (hs : a.small) (w : World) : Calls Tryd.prog 21 #[.agg #[.string a.k, .string a.s, .string a.n]] w fun e w' => e = .returned (.bool (decide (Right3 a))) ∧ Below w.heap.size w w' := by
  obtain ⟨h1, h2, h3⟩ := hs
  have HB := Lib.hid (Below.new w (.cells #[.string a.k, .string a.s, .string a.n] 29))
  have i0 : ∀ w, (Instr.index 69 (.agg #[.string a.k, .string a.s, .string a.n]) (.int .i64 0)).run Tryd.prog w = .ok (.string a.k) w := fun _ => by kernel_rfl
  have i1 : ∀ w, (Instr.index 69 (.agg #[.string a.k, .string a.s, .string a.n]) (.int .i64 1)).run Tryd.prog w = .ok (.string a.s) w := fun _ => by kernel_rfl
  have i2 : ∀ w, (Instr.index 69 (.agg #[.string a.k, .string a.s, .string a.n]) (.int .i64 2)).run Tryd.prog w = .ok (.string a.n) w := fun _ => by kernel_rfl
  go_enter Tryd.func21, Tryd.ntmps21
  go_wp2_with fail
  go_loop [12] (fun x => ∃ q : Nat, q ≤ 3 ∧ x = .int .i64 q ∧ Hid (∀ j, j < q → wordL (wordAt a j).data.toList)) (fun x => 3 - (intOf x).toNat)
  case atStart => exact ⟨0, by omega, rfl, Lib.hid (fun j h => by omega)⟩
  case round =>
    obtain ⟨q, hq, rfl, HR⟩ := hrel
    have hcase : q = 0 ∨ q = 1 ∨ q = 2 ∨ q = 3 := by omega
    clear hq
    rcases hcase with rfl | rfl | rfl | rfl
    · rcases word_cases a.k with ⟨c1, hno⟩ | ⟨c1, c2, hno⟩ | ⟨c1, c2, c3, hno⟩ | ⟨c1, c2, c3, hyes⟩
      case' inl => have CB := Lib.hid (fun w2 => bare_call c1 h1 w2); clear c1
      case' inr.inl => have CB := Lib.hid (fun w2 => bare_call c1 h1 w2); have CT := Lib.hid (fun w2 => tcontains a.k true c2 w2); clear c1 c2
      case' inr.inr.inl => have CB := Lib.hid (fun w2 => bare_call c1 h1 w2); have CT := Lib.hid (fun w2 => tcontains a.k false c2 w2); have g3 : (64 : Int) < (a.k.size : Int) := (by omega); clear c1 c2 c3
      case' inr.inr.inr => have CB := Lib.hid (fun w2 => bare_call c1 h1 w2); have CT := Lib.hid (fun w2 => tcontains a.k false c2 w2); have g3 : ¬ (64 : Int) < (a.k.size : Int) := (by omega); clear c1 c2 c3
      case inr.inr.inr =>
        have HN := Lib.hid (show ∀ j, j < 0 + 1 → wordL (wordAt a j).data.toList from fun j hj => by
          by_cases e : j = 0
          · subst e; exact hyes
          · exact HR.out j (by omega))
        clear hyes
        go_wp2_with (first | (go_at_call 35; refine (CB.out _).mono ?_; rintro e w9 ⟨rfl, rfl⟩) | (go_at_call 36; refine (CT.out _).mono ?_; rintro e w9 ⟨rfl, rfl⟩))
        go_round
        case rel => exact ⟨0 + 1, by omega, by go_num, HN⟩
        case measure => simp [intOf]
      all_goals
        have HF := Lib.hid (show decide (Right3 a) = false from decide_eq_false (fun h => hno ((right_at a).1 h 0 (by omega))))
        clear hno
        go_wp2_with (first | (go_at_call 35; refine (CB.out _).mono ?_; rintro e w9 ⟨rfl, rfl⟩) | (go_at_call 36; refine (CT.out _).mono ?_; rintro e w9 ⟨rfl, rfl⟩))
        go_ret
        exact ⟨by rw [HF.out]; rfl, HB.out⟩
    · rcases word_cases a.s with ⟨c1, hno⟩ | ⟨c1, c2, hno⟩ | ⟨c1, c2, c3, hno⟩ | ⟨c1, c2, c3, hyes⟩
      case' inl => have CB := Lib.hid (fun w2 => bare_call c1 h2 w2); clear c1
      case' inr.inl => have CB := Lib.hid (fun w2 => bare_call c1 h2 w2); have CT := Lib.hid (fun w2 => tcontains a.s true c2 w2); clear c1 c2
      case' inr.inr.inl => have CB := Lib.hid (fun w2 => bare_call c1 h2 w2); have CT := Lib.hid (fun w2 => tcontains a.s false c2 w2); have g3 : (64 : Int) < (a.s.size : Int) := (by omega); clear c1 c2 c3
      case' inr.inr.inr => have CB := Lib.hid (fun w2 => bare_call c1 h2 w2); have CT := Lib.hid (fun w2 => tcontains a.s false c2 w2); have g3 : ¬ (64 : Int) < (a.s.size : Int) := (by omega); clear c1 c2 c3
      case inr.inr.inr =>
        have HN := Lib.hid (show ∀ j, j < 1 + 1 → wordL (wordAt a j).data.toList from fun j hj => by
          by_cases e : j = 1
          · subst e; exact hyes
          · exact HR.out j (by omega))
        clear hyes
        go_wp2_with (first | (go_at_call 35; refine (CB.out _).mono ?_; rintro e w9 ⟨rfl, rfl⟩) | (go_at_call 36; refine (CT.out _).mono ?_; rintro e w9 ⟨rfl, rfl⟩))
        go_round
        case rel => exact ⟨1 + 1, by omega, by go_num, HN⟩
        case measure => simp [intOf]
      all_goals
        have HF := Lib.hid (show decide (Right3 a) = false from decide_eq_false (fun h => hno ((right_at a).1 h 1 (by omega))))
        clear hno
        go_wp2_with (first | (go_at_call 35; refine (CB.out _).mono ?_; rintro e w9 ⟨rfl, rfl⟩) | (go_at_call 36; refine (CT.out _).mono ?_; rintro e w9 ⟨rfl, rfl⟩))
        go_ret
        exact ⟨by rw [HF.out]; rfl, HB.out⟩
    · rcases word_cases a.n with ⟨c1, hno⟩ | ⟨c1, c2, hno⟩ | ⟨c1, c2, c3, hno⟩ | ⟨c1, c2, c3, hyes⟩
      case' inl => have CB := Lib.hid (fun w2 => bare_call c1 h3 w2); clear c1
      case' inr.inl => have CB := Lib.hid (fun w2 => bare_call c1 h3 w2); have CT := Lib.hid (fun w2 => tcontains a.n true c2 w2); clear c1 c2
      case' inr.inr.inl => have CB := Lib.hid (fun w2 => bare_call c1 h3 w2); have CT := Lib.hid (fun w2 => tcontains a.n false c2 w2); have g3 : (64 : Int) < (a.n.size : Int) := (by omega); clear c1 c2 c3
      case' inr.inr.inr => have CB := Lib.hid (fun w2 => bare_call c1 h3 w2); have CT := Lib.hid (fun w2 => tcontains a.n false c2 w2); have g3 : ¬ (64 : Int) < (a.n.size : Int) := (by omega); clear c1 c2 c3
      case inr.inr.inr =>
        have HN := Lib.hid (show ∀ j, j < 2 + 1 → wordL (wordAt a j).data.toList from fun j hj => by
          by_cases e : j = 2
          · subst e; exact hyes
          · exact HR.out j (by omega))
        clear hyes
        go_wp2_with (first | (go_at_call 35; refine (CB.out _).mono ?_; rintro e w9 ⟨rfl, rfl⟩) | (go_at_call 36; refine (CT.out _).mono ?_; rintro e w9 ⟨rfl, rfl⟩))
        go_round
        case rel => exact ⟨2 + 1, by omega, by go_num, HN⟩
        case measure => simp [intOf]
      all_goals
        have HF := Lib.hid (show decide (Right3 a) = false from decide_eq_false (fun h => hno ((right_at a).1 h 2 (by omega))))
        clear hno
        go_wp2_with (first | (go_at_call 35; refine (CB.out _).mono ?_; rintro e w9 ⟨rfl, rfl⟩) | (go_at_call 36; refine (CT.out _).mono ?_; rintro e w9 ⟨rfl, rfl⟩))
        go_ret
        exact ⟨by rw [HF.out]; rfl, HB.out⟩
    · have HF := Lib.hid (show decide (Right3 a) = true from decide_eq_true ((right_at a).2 HR.out))
      go_wp2_with fail
      go_ret
      exact ⟨by rw [HF.out]; rfl, HB.out⟩
end Go.Proofs.YtdgeegfoocoohaaDoor

/- object.Of (printed by gen/objof.py). -/
namespace Go.Proofs.YtdgeegfoocoohaaDoor
open Go.RowKit
attribute [local go_sem ↓] Go.wp_at_zero Go.wp_at_succ

/-! ### object.Of -/
def kindW : ByteArray := ⟨#[107, 105, 110, 100]⟩
def metaW : ByteArray := ⟨#[109, 101, 116, 97, 100, 97, 116, 97]⟩
def nameW : ByteArray := ⟨#[110, 97, 109, 101]⟩
def spaceW : ByteArray := ⟨#[110, 97, 109, 101, 115, 112, 97, 99, 101]⟩
def defW : ByteArray := ⟨#[100, 101, 102, 97, 117, 108, 116]⟩
def relW : ByteArray := ⟨#[82, 101, 108, 101, 97, 115, 101]⟩
def metaT (v : T) : T := (getT v metaW).getD T.zero
def idT (v : T) : ID3 := ⟨((getT v kindW).getD T.zero).str, (match getT (metaT v) spaceW with | some x => x.str | none => defW), ((getT (metaT v) nameW).getD T.zero).str⟩
def ofE (v : T) : Int := if v.check ≠ 0 then v.check else if Right3 (idT v) ∧ (idT v).k ≠ relW then 0 else 26
def ofI (v : T) : ID3 := if ofE v = 0 then idT v else ⟨⟨#[]⟩, ⟨#[]⟩, ⟨#[]⟩⟩
def ofT (v : T) : T := if ofE v = 0 then v else T.zero
def OfPost (w : World) (i : ID3) (t : T) (ec : Int) (e : Ending) (w' : World) : Prop := ∃ la lc ma mc, e = .returned (.tuple #[.agg #[.string i.k, .string i.s, .string i.n, .int .i64 t.kind, .bool t.bool, .int .i64 t.int, .string t.str, .slice la t.list.length lc, .slice ma t.map.length mc], .int .i64 ec]) ∧ RepT w' (fun _ => True) (.agg #[.int .i64 t.kind, .bool t.bool, .int .i64 t.int, .string t.str, .slice la t.list.length lc, .slice ma t.map.length mc]) t ∧ Below w.heap.size w w'
theorem blk_set9 {w : World} {g : Nat} {t : TypeId} {z0 z1 z2 z3 z4 z5 z6 z7 z8 c0 c1 c2 c3 c4 c5 c6 c7 c8 : Value} (h : Blk w g t #[z0, z1, z2, z3, z4, z5, z6, z7, z8]) : Blk (((((((((w.setCell ⟨g, 0, none⟩ c0).setCell ⟨g, 1, none⟩ c1).setCell ⟨g, 2, none⟩ c2).setCell ⟨g, 3, none⟩ c3).setCell ⟨g, 4, none⟩ c4).setCell ⟨g, 5, none⟩ c5).setCell ⟨g, 6, none⟩ c6).setCell ⟨g, 7, none⟩ c7).setCell ⟨g, 8, none⟩ c8) g t #[c0, c1, c2, c3, c4, c5, c6, c7, c8] := by
  have h0 : Blk (w.setCell ⟨g, 0, none⟩ c0) g t #[c0, z1, z2, z3, z4, z5, z6, z7, z8] := h.set_ 0 c0
  have h1 : Blk ((w.setCell ⟨g, 0, none⟩ c0).setCell ⟨g, 1, none⟩ c1) g t #[c0, c1, z2, z3, z4, z5, z6, z7, z8] := h0.set_ 1 c1
  have h2 : Blk (((w.setCell ⟨g, 0, none⟩ c0).setCell ⟨g, 1, none⟩ c1).setCell ⟨g, 2, none⟩ c2) g t #[c0, c1, c2, z3, z4, z5, z6, z7, z8] := h1.set_ 2 c2
  have h3 : Blk ((((w.setCell ⟨g, 0, none⟩ c0).setCell ⟨g, 1, none⟩ c1).setCell ⟨g, 2, none⟩ c2).setCell ⟨g, 3, none⟩ c3) g t #[c0, c1, c2, c3, z4, z5, z6, z7, z8] := h2.set_ 3 c3
  have h4 : Blk (((((w.setCell ⟨g, 0, none⟩ c0).setCell ⟨g, 1, none⟩ c1).setCell ⟨g, 2, none⟩ c2).setCell ⟨g, 3, none⟩ c3).setCell ⟨g, 4, none⟩ c4) g t #[c0, c1, c2, c3, c4, z5, z6, z7, z8] := h3.set_ 4 c4
  have h5 : Blk ((((((w.setCell ⟨g, 0, none⟩ c0).setCell ⟨g, 1, none⟩ c1).setCell ⟨g, 2, none⟩ c2).setCell ⟨g, 3, none⟩ c3).setCell ⟨g, 4, none⟩ c4).setCell ⟨g, 5, none⟩ c5) g t #[c0, c1, c2, c3, c4, c5, z6, z7, z8] := h4.set_ 5 c5
  have h6 : Blk (((((((w.setCell ⟨g, 0, none⟩ c0).setCell ⟨g, 1, none⟩ c1).setCell ⟨g, 2, none⟩ c2).setCell ⟨g, 3, none⟩ c3).setCell ⟨g, 4, none⟩ c4).setCell ⟨g, 5, none⟩ c5).setCell ⟨g, 6, none⟩ c6) g t #[c0, c1, c2, c3, c4, c5, c6, z7, z8] := h5.set_ 6 c6
  have h7 : Blk ((((((((w.setCell ⟨g, 0, none⟩ c0).setCell ⟨g, 1, none⟩ c1).setCell ⟨g, 2, none⟩ c2).setCell ⟨g, 3, none⟩ c3).setCell ⟨g, 4, none⟩ c4).setCell ⟨g, 5, none⟩ c5).setCell ⟨g, 6, none⟩ c6).setCell ⟨g, 7, none⟩ c7) g t #[c0, c1, c2, c3, c4, c5, c6, c7, z8] := h6.set_ 7 c7
  have h8 : Blk (((((((((w.setCell ⟨g, 0, none⟩ c0).setCell ⟨g, 1, none⟩ c1).setCell ⟨g, 2, none⟩ c2).setCell ⟨g, 3, none⟩ c3).setCell ⟨g, 4, none⟩ c4).setCell ⟨g, 5, none⟩ c5).setCell ⟨g, 6, none⟩ c6).setCell ⟨g, 7, none⟩ c7).setCell ⟨g, 8, none⟩ c8) g t #[c0, c1, c2, c3, c4, c5, c6, c7, c8] := h7.set_ 8 c8
  exact h8
theorem bel_set9 {B : Nat} {a w : World} {g : Nat} {c0 c1 c2 c3 c4 c5 c6 c7 c8 : Value} (h : Below B a w) (hg : B ≤ g) : Below B a (((((((((w.setCell ⟨g, 0, none⟩ c0).setCell ⟨g, 1, none⟩ c1).setCell ⟨g, 2, none⟩ c2).setCell ⟨g, 3, none⟩ c3).setCell ⟨g, 4, none⟩ c4).setCell ⟨g, 5, none⟩ c5).setCell ⟨g, 6, none⟩ c6).setCell ⟨g, 7, none⟩ c7).setCell ⟨g, 8, none⟩ c8) := (((((((((h.setCell (p := ⟨g, 0, none⟩) hg c0).setCell (p := ⟨g, 1, none⟩) hg c1).setCell (p := ⟨g, 2, none⟩) hg c2).setCell (p := ⟨g, 3, none⟩) hg c3).setCell (p := ⟨g, 4, none⟩) hg c4).setCell (p := ⟨g, 5, none⟩) hg c5).setCell (p := ⟨g, 6, none⟩) hg c6).setCell (p := ⟨g, 7, none⟩) hg c7).setCell (p := ⟨g, 8, none⟩) hg c8)
theorem far_set9 {w : World} {g b o : Nat} {c0 c1 c2 c3 c4 c5 c6 c7 c8 : Value} (h : b ≠ g) : ((((((((((w.setCell ⟨g, 0, none⟩ c0).setCell ⟨g, 1, none⟩ c1).setCell ⟨g, 2, none⟩ c2).setCell ⟨g, 3, none⟩ c3).setCell ⟨g, 4, none⟩ c4).setCell ⟨g, 5, none⟩ c5).setCell ⟨g, 6, none⟩ c6).setCell ⟨g, 7, none⟩ c7).setCell ⟨g, 8, none⟩ c8) : World).cell? ⟨b, o, none⟩ = w.cell? ⟨b, o, none⟩ := by simp only [cell_far h]
theorem of_zero {w w' : World} {v : T} (h : ofE v ≠ 0) (hb : Below w.heap.size w w') : OfPost w (ofI v) (ofT v) (ofE v) (.returned (.tuple #[.agg #[.string ⟨#[]⟩, .string ⟨#[]⟩, .string ⟨#[]⟩, .int .i64 0, .bool false, .int .i64 0, .string ⟨#[]⟩, .slice none 0 0, .slice none 0 0], .int .i64 (ofE v)])) w' := by
  unfold ofI ofT
  rw [if_neg h, if_neg h]
  exact ⟨none, 0, none, 0, rfl, rep_zero _ _, hb⟩
theorem of_none {w w' : World} {v : T} {ec : Int} (he : ofE v = ec) (h : ofE v ≠ 0) (hb : Below w.heap.size w w') : OfPost w (ofI v) (ofT v) (ofE v) (.returned (.tuple #[.agg #[.string ⟨#[]⟩, .string ⟨#[]⟩, .string ⟨#[]⟩, .int .i64 0, .bool false, .int .i64 0, .string ⟨#[]⟩, .slice none 0 0, .slice none 0 0], .int .i64 ec])) w' := by
  subst he
  exact of_zero h hb
theorem of_ok {w w' : World} {v : T} {i : ID3} (h : ofE v = 0) (hi : idT v = i) {la : Option Addr} {lc : Nat} {ma : Option Addr} {mc : Nat} (hr : RepT w' (fun _ => True) (.agg #[.int .i64 v.kind, .bool v.bool, .int .i64 v.int, .string v.str, .slice la v.list.length lc, .slice ma v.map.length mc]) v) (hb : Below w.heap.size w w') :
    OfPost w (ofI v) (ofT v) (ofE v) (.returned (.tuple #[.agg #[.string i.k, .string i.s, .string i.n, .int .i64 v.kind, .bool v.bool, .int .i64 v.int, .string v.str, .slice la v.list.length lc, .slice ma v.map.length mc], .int .i64 0])) w' := by
  unfold ofI ofT
  rw [if_pos h, if_pos h, h, hi]
  exact ⟨la, lc, ma, mc, rfl, hr, hb⟩
theorem obj_size : (Tryd.prog.info? 35).map (·.size) = some 9 := by kernel_rfl
theorem str_wt (t : T) : t.str.size ≤ t.wt := by rw [T.wt_eq]; omega
theorem getT_wt (v : T) (k : ByteArray) : ((getT v k).getD T.zero).wt ≤ v.wt := by
  have h1 : T.zero.wt ≤ v.wt := by
    have : T.zero.wt = 1 := by rw [T.wt_eq]; simp [T.zero, T.str, T.list, T.map, T.wtL, T.wtM]; rfl
    rw [this, T.wt_eq]; omega
  unfold getT
  split
  · cases hl : look v.map k with
    | none => exact h1
    | some x => exact wt_sub (k, x) (look_mem hl)
  · exact h1
theorem idT_small {v : T} (h : v.wt ≤ 6000) : (idT v).small := by
  have h1 := getT_wt v kindW
  have h2 := getT_wt v metaW
  have h3 := getT_wt (metaT v) nameW
  have h4 := getT_wt (metaT v) spaceW
  have s1 := str_wt ((getT v kindW).getD T.zero)
  have s2 := str_wt ((getT (metaT v) nameW).getD T.zero)
  have s3 := str_wt ((getT (metaT v) spaceW).getD T.zero)
  have hm : (metaT v).wt ≤ v.wt := h2
  refine ⟨?_, ?_, ?_⟩
  · show ((getT v kindW).getD T.zero).str.size ≤ _; omega
  · show (match getT (metaT v) spaceW with | some x => x.str | none => defW).size ≤ _
    cases hs : getT (metaT v) spaceW with
    | none => decide
    | some x => rw [hs] at h4 s3; simp only [Option.getD_some] at h4 s3; show x.str.size ≤ _; omega
  · show ((getT (metaT v) nameW).getD T.zero).str.size ≤ _; omega
theorem check_parts {v : T} (h : v.check = 0) : v.parts = 0 := by
  unfold T.check at h
  split at h
  · omega
  · split at h
    · omega
    · exact h
theorem getT_parts {v : T} (h : v.parts = 0) (k : ByteArray) : ((getT v k).getD T.zero).parts = 0 := by
  unfold getT
  split
  · cases hl : look v.map k with
    | none => decide +kernel
    | some x => exact (parts_of h).2 _ (look_mem hl)
  · decide +kernel
set_option maxRecDepth 100000 in
set_option maxHeartbeats 16000000 in
theorem tof (v : T) (vv : Value) (w : World) (hw : v.wt ≤ 6000) (hv : RepT w (fun _ => True) vv v) : Calls Tryd.prog 10 #[vv] w (OfPost w (ofI v) (ofT v) (ofE v)) := by
  obtain ⟨la, lc, ma, mc, rfl, -⟩ := hv.inv
  have H_v := Lib.hid hv
  have HV0 := Lib.hid hv
  clear hv
  have hsz : v.size < 4611686018427387904 := by have := size_le_wt v; omega
  by_cases hc : v.check = 0
  case neg =>
    have g0 : (v.check != 0) = true := bne_iff_ne.2 hc
    have HE := Lib.hid (show ofE v = v.check from by unfold ofE; rw [if_pos hc])
    have HN := Lib.hid (show ofE v ≠ 0 from by rw [HE.out]; exact hc)
    clear hc
    go_enter Tryd.func10, Tryd.ntmps10
    go_wp2_with fail
    refine (tcheck v _ _ _ (H_v.out.keep (by exact (Below.new _ _).alloc (by simp) _)) hsz).mono ?_
    rintro e w1 ⟨rfl, hb⟩
    have HD1 := Lib.hid (show Below w.heap.size w w1 from Below.next ((Below.new _ _).alloc (by simp) _) hb)
    have L1_0 := Lib.hid (((Blk.new w 33 #[.int .i64 v.kind, .bool v.bool, .int .i64 v.int, .string v.str, .slice la v.list.length lc, .slice ma v.map.length mc]).alloc (.cells #[.string ⟨#[]⟩, .string ⟨#[]⟩, .string ⟨#[]⟩, .int .i64 0, .bool false, .int .i64 0, .string ⟨#[]⟩, .slice none 0 0, .slice none 0 0] 35)).keep hb)
    have L1_1 := Lib.hid ((Blk.new_at (w.alloc (.cells #[.int .i64 v.kind, .bool v.bool, .int .i64 v.int, .string v.str, .slice la v.list.length lc, .slice ma v.map.length mc] 33)) 35 #[.string ⟨#[]⟩, .string ⟨#[]⟩, .string ⟨#[]⟩, .int .i64 0, .bool false, .int .i64 0, .string ⟨#[]⟩, .slice none 0 0, .slice none 0 0] (n := w.heap.size + 1) (by simp)).keep hb)
    have V1_v := Lib.hid (H_v.out.keep HD1.out)
    have HW1 := Lib.hid (show Below w.heap.size w w1 from HD1.out)
    clear hb HD1 H_v
    have k1_0 := L1_0.out.cell
    have l1_0 := L1_0.out.lt
    have k1_1 := L1_1.out.cell
    have l1_1 := L1_1.out.lt
    have f0 := L1_1.out.frozen 0; have f1 := L1_1.out.frozen 1; have f2 := L1_1.out.frozen 2; have f3 := L1_1.out.frozen 3; have f4 := L1_1.out.frozen 4; have f5 := L1_1.out.frozen 5; have f6 := L1_1.out.frozen 6; have f7 := L1_1.out.frozen 7; have f8 := L1_1.out.frozen 8
    go_wp2_with fail
    exact ret_cell2 rfl rfl rfl (((((((((L1_1.out.set_ 0 _).set_ 1 _).set_ 2 _).set_ 3 _).set_ 4 _).set_ 5 _).set_ 6 _).set_ 7 _).set_ 8 _) Tryd.underlying35 obj_size rfl (of_none HE.out HN.out ((((((((((HW1.out).setCell (p := ⟨w.heap.size + 1, 0, none⟩) (Nat.le_succ _) _).setCell (p := ⟨w.heap.size + 1, 1, none⟩) (Nat.le_succ _) _).setCell (p := ⟨w.heap.size + 1, 2, none⟩) (Nat.le_succ _) _).setCell (p := ⟨w.heap.size + 1, 3, none⟩) (Nat.le_succ _) _).setCell (p := ⟨w.heap.size + 1, 4, none⟩) (Nat.le_succ _) _).setCell (p := ⟨w.heap.size + 1, 5, none⟩) (Nat.le_succ _) _).setCell (p := ⟨w.heap.size + 1, 6, none⟩) (Nat.le_succ _) _).setCell (p := ⟨w.heap.size + 1, 7, none⟩) (Nat.le_succ _) _).setCell (p := ⟨w.heap.size + 1, 8, none⟩) (Nat.le_succ _) _))
  have g0 : (v.check != 0) = false := by rw [hc]; rfl
  have HP := Lib.hid (check_parts hc)
  obtain ⟨bk, hbk⟩ : ∃ b, (getT v kindW).isSome = b := ⟨_, rfl⟩
  obtain ⟨kd, hkd⟩ : ∃ x, (getT v kindW).getD T.zero = x := ⟨_, rfl⟩
  obtain ⟨bm, hbm⟩ : ∃ b, (getT v metaW).isSome = b := ⟨_, rfl⟩
  obtain ⟨mt, hmt⟩ : ∃ x, (getT v metaW).getD T.zero = x := ⟨_, rfl⟩
  have HPM := Lib.hid (show mt.parts = 0 from hmt ▸ getT_parts HP.out metaW)
  obtain ⟨bn, hbn⟩ : ∃ b, (getT mt nameW).isSome = b := ⟨_, rfl⟩
  obtain ⟨nm, hnm⟩ : ∃ x, (getT mt nameW).getD T.zero = x := ⟨_, rfl⟩
  obtain ⟨bs, hbs⟩ : ∃ b, (getT mt spaceW).isSome = b := ⟨_, rfl⟩
  obtain ⟨sp, hsp⟩ : ∃ x, (getT mt spaceW).getD T.zero = x := ⟨_, rfl⟩
  have CK := Lib.hid (fun w2 v2 (h : RepT w2 (fun _ => True) v2 v) => tget_b hbk hkd v2 w2 _ h (parts_KS HP.out))
  have CM := Lib.hid (fun w2 v2 (h : RepT w2 (fun _ => True) v2 v) => tget_b hbm hmt v2 w2 _ h (parts_KS HP.out))
  have CN := Lib.hid (fun w2 v2 (h : RepT w2 (fun _ => True) v2 mt) => tget_b hbn hnm v2 w2 _ h (parts_KS HPM.out))
  have CS := Lib.hid (fun w2 v2 (h : RepT w2 (fun _ => True) v2 mt) => tget_b hbs hsp v2 w2 _ h (parts_KS HPM.out))
  have HI := Lib.hid (show idT v = ⟨kd.str, (if bs then sp.str else defW), nm.str⟩ from by
    unfold idT metaT
    rw [hkd, hmt, hnm, ← hbs, ← hsp]
    cases getT mt spaceW <;> rfl)
  have HZ := Lib.hid (show (idT v).small from idT_small hw)
  have HC := Lib.hid (show v.check = 0 from hc)
  have CC := Lib.hid (fun w2 v2 (h : RepT w2 (fun _ => True) v2 v) => clone_any v w2 _ v2 h)
  have hck : ∀ w2 v2, RepT w2 (fun _ => True) v2 v → Calls Tryd.prog 18 #[v2] w2 fun e w' => e = .returned (.int .i64 0) ∧ Below w2.heap.size w2 w' := fun w2 v2 h => by have := tcheck v w2 _ v2 h hsz; rw [hc] at this; exact this
  have CH := Lib.hid hck
  clear hck hc hkd hmt hnm hsp hbk hbm hbn hbs hw hsz
  go_enter Tryd.func10, Tryd.ntmps10
  go_wp2_with fail
  refine (CH.out _ _ (H_v.out.keep (by exact (Below.new _ _).alloc (by simp) _))).mono ?_
  rintro e w1 ⟨rfl, hb⟩
  have HD1 := Lib.hid (show Below w.heap.size w w1 from Below.next ((Below.new _ _).alloc (by simp) _) hb)
  have L1_0 := Lib.hid (((Blk.new w 33 #[.int .i64 v.kind, .bool v.bool, .int .i64 v.int, .string v.str, .slice la v.list.length lc, .slice ma v.map.length mc]).alloc (.cells #[.string ⟨#[]⟩, .string ⟨#[]⟩, .string ⟨#[]⟩, .int .i64 0, .bool false, .int .i64 0, .string ⟨#[]⟩, .slice none 0 0, .slice none 0 0] 35)).keep hb)
  have L1_1 := Lib.hid ((Blk.new_at (w.alloc (.cells #[.int .i64 v.kind, .bool v.bool, .int .i64 v.int, .string v.str, .slice la v.list.length lc, .slice ma v.map.length mc] 33)) 35 #[.string ⟨#[]⟩, .string ⟨#[]⟩, .string ⟨#[]⟩, .int .i64 0, .bool false, .int .i64 0, .string ⟨#[]⟩, .slice none 0 0, .slice none 0 0] (n := w.heap.size + 1) (by simp)).keep hb)
  have V1_v := Lib.hid (H_v.out.keep HD1.out)
  have HW1 := Lib.hid (show Below w.heap.size w w1 from HD1.out)
  clear hb HD1 H_v
  have k1_0 := L1_0.out.cell
  have l1_0 := L1_0.out.lt
  have k1_1 := L1_1.out.cell
  have l1_1 := L1_1.out.lt
  go_wp2_with fail
  refine (CK.out _ _ (V1_v.out)).mono ?_
  rintro e w2 ⟨v2, rfl, hr, hb⟩
  obtain ⟨qa2, qc2, qm2, qn2, rfl, -⟩ := hr.inv
  have N2 := Lib.hid (hr.any)
  clear hr
  have HD2 := Lib.hid (show Below w1.heap.size w1 w2 from hb)
  have L2_0 := Lib.hid (L1_0.out.keep HD2.out)
  have L2_1 := Lib.hid (L1_1.out.keep HD2.out)
  have V2_v := Lib.hid (V1_v.out.keep HD2.out)
  have HW2 := Lib.hid (Below.next HW1.out HD2.out)
  clear k1_0 l1_0 k1_1 l1_1 hb HD2 L1_0 L1_1 V1_v HW1
  have k2_0 := L2_0.out.cell
  have l2_0 := L2_0.out.lt
  have k2_1 := L2_1.out.cell
  have l2_1 := L2_1.out.lt
  go_wp2_with fail
  refine (CM.out _ _ (V2_v.out.keep (by exact Below.new _ _))).mono ?_
  rintro e w3 ⟨v3, rfl, hr, hb⟩
  obtain ⟨qa3, qc3, qm3, qn3, rfl, -⟩ := hr.inv
  have N3 := Lib.hid (hr.any)
  clear hr
  have HD3 := Lib.hid (show Below w2.heap.size w2 w3 from Below.next (Below.new _ _) hb)
  have L3_0 := Lib.hid (L2_0.out.keep HD3.out)
  have L3_1 := Lib.hid (L2_1.out.keep HD3.out)
  have L3_2 := Lib.hid ((Blk.new w2 33 #[.int .i64 kd.kind, .bool kd.bool, .int .i64 kd.int, .string kd.str, .slice qa2 kd.list.length qc2, .slice qm2 kd.map.length qn2]).keep hb)
  have V3_v := Lib.hid (V2_v.out.keep HD3.out)
  have V3_kd := Lib.hid (N2.out.keep HD3.out)
  have HW3 := Lib.hid (Below.next HW2.out HD3.out)
  clear k2_0 l2_0 k2_1 l2_1 hb HD3 L2_0 L2_1 V2_v N2 HW2
  have k3_0 := L3_0.out.cell
  have l3_0 := L3_0.out.lt
  have k3_1 := L3_1.out.cell
  have l3_1 := L3_1.out.lt
  have k3_2 := L3_2.out.cell
  have l3_2 := L3_2.out.lt
  go_wp2_with fail
  refine (CN.out _ _ (N3.out.keep (by exact Below.new _ _))).mono ?_
  rintro e w4 ⟨v4, rfl, hr, hb⟩
  obtain ⟨qa4, qc4, qm4, qn4, rfl, -⟩ := hr.inv
  have N4 := Lib.hid (hr.any)
  clear hr
  have HD4 := Lib.hid (show Below w3.heap.size w3 w4 from Below.next (Below.new _ _) hb)
  have L4_0 := Lib.hid (L3_0.out.keep HD4.out)
  have L4_1 := Lib.hid (L3_1.out.keep HD4.out)
  have L4_2 := Lib.hid (L3_2.out.keep HD4.out)
  have L4_3 := Lib.hid ((Blk.new w3 33 #[.int .i64 mt.kind, .bool mt.bool, .int .i64 mt.int, .string mt.str, .slice qa3 mt.list.length qc3, .slice qm3 mt.map.length qn3]).keep hb)
  have V4_v := Lib.hid (V3_v.out.keep HD4.out)
  have V4_kd := Lib.hid (V3_kd.out.keep HD4.out)
  have V4_mt := Lib.hid (N3.out.keep HD4.out)
  have HW4 := Lib.hid (Below.next HW3.out HD4.out)
  clear k3_0 l3_0 k3_1 l3_1 k3_2 l3_2 hb HD4 L3_0 L3_1 L3_2 V3_v V3_kd N3 HW3
  have k4_0 := L4_0.out.cell
  have l4_0 := L4_0.out.lt
  have k4_1 := L4_1.out.cell
  have l4_1 := L4_1.out.lt
  have k4_2 := L4_2.out.cell
  have l4_2 := L4_2.out.lt
  have k4_3 := L4_3.out.cell
  have l4_3 := L4_3.out.lt
  go_wp2_with fail
  refine (CS.out _ _ (V4_mt.out.keep (by exact Below.new _ _))).mono ?_
  rintro e w5 ⟨v5, rfl, hr, hb⟩
  obtain ⟨qa5, qc5, qm5, qn5, rfl, -⟩ := hr.inv
  have N5 := Lib.hid (hr.any)
  clear hr
  have HD5 := Lib.hid (show Below w4.heap.size w4 w5 from Below.next (Below.new _ _) hb)
  have L5_0 := Lib.hid (L4_0.out.keep HD5.out)
  have L5_1 := Lib.hid (L4_1.out.keep HD5.out)
  have L5_2 := Lib.hid (L4_2.out.keep HD5.out)
  have L5_3 := Lib.hid (L4_3.out.keep HD5.out)
  have L5_4 := Lib.hid ((Blk.new w4 33 #[.int .i64 nm.kind, .bool nm.bool, .int .i64 nm.int, .string nm.str, .slice qa4 nm.list.length qc4, .slice qm4 nm.map.length qn4]).keep hb)
  have V5_v := Lib.hid (V4_v.out.keep HD5.out)
  have V5_kd := Lib.hid (V4_kd.out.keep HD5.out)
  have V5_mt := Lib.hid (V4_mt.out.keep HD5.out)
  have V5_nm := Lib.hid (N4.out.keep HD5.out)
  have HW5 := Lib.hid (Below.next HW4.out HD5.out)
  clear k4_0 l4_0 k4_1 l4_1 k4_2 l4_2 k4_3 l4_3 hb HD5 L4_0 L4_1 L4_2 L4_3 V4_v V4_kd V4_mt N4 HW4
  have k5_0 := L5_0.out.cell
  have l5_0 := L5_0.out.lt
  have k5_1 := L5_1.out.cell
  have l5_1 := L5_1.out.lt
  have k5_2 := L5_2.out.cell
  have l5_2 := L5_2.out.lt
  have k5_3 := L5_3.out.cell
  have l5_3 := L5_3.out.lt
  have k5_4 := L5_4.out.cell
  have l5_4 := L5_4.out.lt
  have HN5_0 : w.heap.size ≠ w5.heap.size := Nat.ne_of_lt l5_0
  have HN5_1 : w.heap.size + 1 ≠ w5.heap.size := Nat.ne_of_lt l5_1
  have HN5_2 : w2.heap.size ≠ w5.heap.size := Nat.ne_of_lt l5_2
  have HN5_4 : w4.heap.size ≠ w5.heap.size := Nat.ne_of_lt l5_4
  have HLE : w.heap.size ≤ w5.heap.size := HW5.out.size
  go_upto_if 41 with fail
  obtain ⟨w6, hwz⟩ : ∃ x, x = (w5.alloc (.cells #[.int .i64 sp.kind, .bool sp.bool, .int .i64 sp.int, .string sp.str, .slice qa5 sp.list.length qc5, .slice qm5 sp.map.length qn5] 33)) := ⟨_, rfl⟩
  have hb : Below (w5.alloc (.cells #[.int .i64 sp.kind, .bool sp.bool, .int .i64 sp.int, .string sp.str, .slice qa5 sp.list.length qc5, .slice qm5 sp.map.length qn5] 33)).heap.size (w5.alloc (.cells #[.int .i64 sp.kind, .bool sp.bool, .int .i64 sp.int, .string sp.str, .slice qa5 sp.list.length qc5, .slice qm5 sp.map.length qn5] 33)) w6 := by rw [hwz]; exact Below.refl _ _
  rw [← hwz]
  clear hwz
  have HD6 := Lib.hid (show Below w5.heap.size w5 w6 from Below.next (Below.new _ _) hb)
  have L6_0 := Lib.hid (L5_0.out.keep HD6.out)
  have L6_1 := Lib.hid (L5_1.out.keep HD6.out)
  have L6_2 := Lib.hid (L5_2.out.keep HD6.out)
  have L6_3 := Lib.hid (L5_3.out.keep HD6.out)
  have L6_4 := Lib.hid (L5_4.out.keep HD6.out)
  have L6_5 := Lib.hid ((Blk.new w5 33 #[.int .i64 sp.kind, .bool sp.bool, .int .i64 sp.int, .string sp.str, .slice qa5 sp.list.length qc5, .slice qm5 sp.map.length qn5]).keep hb)
  have V6_v := Lib.hid (V5_v.out.keep HD6.out)
  have V6_kd := Lib.hid (V5_kd.out.keep HD6.out)
  have V6_mt := Lib.hid (V5_mt.out.keep HD6.out)
  have V6_nm := Lib.hid (V5_nm.out.keep HD6.out)
  have V6_sp := Lib.hid (N5.out.keep HD6.out)
  have HW6 := Lib.hid (Below.next HW5.out HD6.out)
  clear k5_0 l5_0 k5_1 l5_1 k5_2 l5_2 k5_3 l5_3 k5_4 l5_4 hb HD6 L5_0 L5_1 L5_2 L5_3 L5_4 V5_v V5_kd V5_mt V5_nm N5 HW5
  have k6_0 := L6_0.out.cell
  have l6_0 := L6_0.out.lt
  have k6_1 := L6_1.out.cell
  have l6_1 := L6_1.out.lt
  have k6_2 := L6_2.out.cell
  have l6_2 := L6_2.out.lt
  have k6_3 := L6_3.out.cell
  have l6_3 := L6_3.out.lt
  have k6_4 := L6_4.out.cell
  have l6_4 := L6_4.out.lt
  have k6_5 := L6_5.out.cell
  have l6_5 := L6_5.out.lt
  have n0 : w.heap.size ≠ w5.heap.size := HN5_0
  have n1 : w.heap.size + 1 ≠ w5.heap.size := HN5_1
  have n2 : w2.heap.size ≠ w5.heap.size := HN5_2
  have n4 : w4.heap.size ≠ w5.heap.size := HN5_4
  go_cut [] from 42 to 42 (fun wx => ∃ (st : T) (sa : Option Addr) (sc : Nat) (sm : Option Addr) (sn : Nat), Hid (st.str = (if bs then sp.str else defW)) ∧ Hid (Blk wx w5.heap.size 33 #[.int .i64 st.kind, .bool st.bool, .int .i64 st.int, .string st.str, .slice sa st.list.length sc, .slice sm st.map.length sn]) ∧ Hid (Blk wx (w.heap.size) 33 #[.int .i64 v.kind, .bool v.bool, .int .i64 v.int, .string v.str, .slice la v.list.length lc, .slice ma v.map.length mc]) ∧ Hid (Blk wx (w.heap.size + 1) 35 #[.string ⟨#[]⟩, .string ⟨#[]⟩, .string ⟨#[]⟩, .int .i64 0, .bool false, .int .i64 0, .string ⟨#[]⟩, .slice none 0 0, .slice none 0 0]) ∧ Hid (Blk wx (w2.heap.size) 33 #[.int .i64 kd.kind, .bool kd.bool, .int .i64 kd.int, .string kd.str, .slice qa2 kd.list.length qc2, .slice qm2 kd.map.length qn2]) ∧ Hid (Blk wx (w4.heap.size) 33 #[.int .i64 nm.kind, .bool nm.bool, .int .i64 nm.int, .string nm.str, .slice qa4 nm.list.length qc4, .slice qm4 nm.map.length qn4]) ∧ Hid (Below w.heap.size w wx))
  case first =>
    cases bs
    · go_wp2_with fail
      refine (str_call defW (by decide) _).mono ?_
      rintro e w7 ⟨v7, rfl, hr0, hb⟩
      have hr := hr0 w7 (fun _ => True)
      clear hr0
      obtain ⟨qa7, qc7, qm7, qn7, rfl, -⟩ := hr.inv
      have N7 := Lib.hid (hr.any)
      clear hr
      have HD7 := Lib.hid (show Below w6.heap.size w6 w7 from hb)
      have L7_0 := Lib.hid (L6_0.out.keep HD7.out)
      have L7_1 := Lib.hid (L6_1.out.keep HD7.out)
      have L7_2 := Lib.hid (L6_2.out.keep HD7.out)
      have L7_3 := Lib.hid (L6_3.out.keep HD7.out)
      have L7_4 := Lib.hid (L6_4.out.keep HD7.out)
      have L7_5 := Lib.hid (L6_5.out.keep HD7.out)
      have V7_v := Lib.hid (V6_v.out.keep HD7.out)
      have V7_kd := Lib.hid (V6_kd.out.keep HD7.out)
      have V7_mt := Lib.hid (V6_mt.out.keep HD7.out)
      have V7_nm := Lib.hid (V6_nm.out.keep HD7.out)
      have V7_sp := Lib.hid (V6_sp.out.keep HD7.out)
      have HW7 := Lib.hid (Below.next HW6.out HD7.out)
      clear k6_0 l6_0 k6_1 l6_1 k6_2 l6_2 k6_3 l6_3 k6_4 l6_4 k6_5 l6_5 hb HD7 L6_0 L6_1 L6_2 L6_3 L6_4 L6_5 V6_v V6_kd V6_mt V6_nm V6_sp HW6
      have k7_0 := L7_0.out.cell
      have l7_0 := L7_0.out.lt
      have k7_1 := L7_1.out.cell
      have l7_1 := L7_1.out.lt
      have k7_2 := L7_2.out.cell
      have l7_2 := L7_2.out.lt
      have k7_3 := L7_3.out.cell
      have l7_3 := L7_3.out.lt
      have k7_4 := L7_4.out.cell
      have l7_4 := L7_4.out.lt
      have k7_5 := L7_5.out.cell
      have l7_5 := L7_5.out.lt
      have f0 := L7_5.out.frozen 0; have f1 := L7_5.out.frozen 1; have f2 := L7_5.out.frozen 2; have f3 := L7_5.out.frozen 3; have f4 := L7_5.out.frozen 4; have f5 := L7_5.out.frozen 5
      go_wp2_with fail
      go_meet
      exact ⟨tS defW, _, _, _, _, Lib.hid rfl, Lib.hid ((((((L7_5.out.set_ 0 _).set_ 1 _).set_ 2 _).set_ 3 _).set_ 4 _).set_ 5 _), Lib.hid ((((((L7_0.out.far n0 _).far n0 _).far n0 _).far n0 _).far n0 _).far n0 _), Lib.hid ((((((L7_1.out.far n1 _).far n1 _).far n1 _).far n1 _).far n1 _).far n1 _), Lib.hid ((((((L7_2.out.far n2 _).far n2 _).far n2 _).far n2 _).far n2 _).far n2 _), Lib.hid ((((((L7_4.out.far n4 _).far n4 _).far n4 _).far n4 _).far n4 _).far n4 _), Lib.hid (((((((HW7.out).setCell (p := ⟨w5.heap.size, 0, none⟩) HLE _).setCell (p := ⟨w5.heap.size, 1, none⟩) HLE _).setCell (p := ⟨w5.heap.size, 2, none⟩) HLE _).setCell (p := ⟨w5.heap.size, 3, none⟩) HLE _).setCell (p := ⟨w5.heap.size, 4, none⟩) HLE _).setCell (p := ⟨w5.heap.size, 5, none⟩) HLE _)⟩
    · go_wp2_with fail
      go_meet
      exact ⟨sp, _, _, _, _, Lib.hid rfl, L6_5, L6_0, L6_1, L6_2, L6_4, HW6⟩
  case rest =>
    obtain ⟨st, sa, sc, sm, sn, HST, M5, M0, M1, M2, M4, MW⟩ := hcut
    have HID := Lib.hid (show idT v = ⟨kd.str, st.str, nm.str⟩ from by rw [HI.out, HST.out])
    have k0 := M0.out.cell; have k2 := M2.out.cell; have k4 := M4.out.cell; have k5 := M5.out.cell
    have z0 := M0.out.lt; have z2 := M2.out.lt; have z4 := M4.out.lt; have z5 := M5.out.lt
    clear k6_0 l6_0 k6_1 l6_1 k6_2 l6_2 k6_3 l6_3 k6_4 l6_4 k6_5 l6_5 n0 n1 n2 n4
    have CR := Lib.hid (fun w2 => show Calls Tryd.prog 21 #[.agg #[.string kd.str, .string st.str, .string nm.str]] w2 (fun e w' => e = .returned (.bool (decide (Right3 (idT v)))) ∧ Below w2.heap.size w2 w') from by
      have h := tright3 (idT v) HZ.out w2
      have e := HID.out
      rw [show (idT v).k = kd.str by rw [e], show (idT v).s = st.str by rw [e], show (idT v).n = nm.str by rw [e]] at h
      exact h)
    have hk : (idT v).k = kd.str := by rw [HID.out]
    go_wp2_with fail
    refine (CR.out _).mono ?_
    rintro e w9 ⟨rfl, hb⟩
    have R0 := Lib.hid ((M0.out.alloc _).keep hb)
    have R1 := Lib.hid ((M1.out.alloc _).keep hb)
    have R6 := Lib.hid ((Blk.new wc 29 #[.string kd.str, .string st.str, .string nm.str]).keep hb)
    have RW := Lib.hid (Below.next MW.out (Below.next (Below.new _ _) hb))
    clear hb k0 k2 k4 k5 z0 z2 z4 z5
    have f0 := R1.out.frozen 0; have f1 := R1.out.frozen 1; have f2 := R1.out.frozen 2; have f3 := R1.out.frozen 3; have f4 := R1.out.frozen 4; have f5 := R1.out.frozen 5; have f6 := R1.out.frozen 6; have f7 := R1.out.frozen 7; have f8 := R1.out.frozen 8
    have k0 := R0.out.cell; have k6 := R6.out.cell; have k1 := R1.out.cell
    have z0 := R0.out.lt; have z6 := R6.out.lt; have z1 := R1.out.lt
    by_cases hR : Right3 (idT v)
    case neg =>
      have HE := Lib.hid (show ofE v = 26 from by unfold ofE; rw [if_neg (by rw [HC.out]; simp), if_neg (fun h => hR h.1)])
      have HN := Lib.hid (show ofE v ≠ 0 from by rw [HE.out]; decide)
      rw [decide_eq_false hR]
      clear hR hk
      go_wp2_with fail
      refine ret_cell2 (t := 35) (cs := #[.string ⟨#[]⟩, .string ⟨#[]⟩, .string ⟨#[]⟩, .int .i64 0, .bool false, .int .i64 0, .string ⟨#[]⟩, .slice none 0 0, .slice none 0 0]) rfl rfl rfl ?_ Tryd.underlying35 obj_size rfl ?_
      · exact blk_set9 R1.out
      · exact of_none HE.out HN.out (bel_set9 RW.out (Nat.le_succ _))
    rw [decide_eq_true hR]
    by_cases hq : kd.str = relW
    case pos =>
      have gq : (kd.str.toList == [82, 101, 108, 101, 97, 115, 101]) = true := by rw [word_eq]; exact decide_eq_true (by rw [hq]; rfl)
      have HE := Lib.hid (show ofE v = 26 from by unfold ofE; rw [if_neg (by rw [HC.out]; simp), if_neg (fun h => h.2 (hk.trans hq))])
      have HN := Lib.hid (show ofE v ≠ 0 from by rw [HE.out]; decide)
      clear hR hk hq
      go_wp2_with fail
      refine ret_cell2 (t := 35) (cs := #[.string ⟨#[]⟩, .string ⟨#[]⟩, .string ⟨#[]⟩, .int .i64 0, .bool false, .int .i64 0, .string ⟨#[]⟩, .slice none 0 0, .slice none 0 0]) rfl rfl rfl ?_ Tryd.underlying35 obj_size rfl ?_
      · exact blk_set9 R1.out
      · exact of_none HE.out HN.out (bel_set9 RW.out (Nat.le_succ _))
    have gq : (kd.str.toList == [82, 101, 108, 101, 97, 115, 101]) = false := by rw [word_eq]; exact decide_eq_false (fun h => hq (list_ext h))
    have HE := Lib.hid (show ofE v = 0 from by unfold ofE; rw [if_neg (by rw [HC.out]; simp), if_pos ⟨hR, fun h => hq (hk.symm.trans h)⟩])
    clear hR hk hq
    go_wp2_with fail
    go_region_with (go_at_call 16; refine (CC.out _ _ (HV0.out.keep (by exact RW.out.drew))).mono ?_; rintro e wz ⟨vz, rfl, hr, hb⟩; obtain ⟨za, zc, zm, zn, rfl, -⟩ := hr.inv; have Z1 := Lib.hid (R1.out.drew.keep hb); have Z6 := Lib.hid (R6.out.drew.keep hb); have ZW := Lib.hid (Below.next RW.out.drew hb); have ZR := Lib.hid hr; clear hb hr f0 f1 f2 f3 f4 f5 f6 f7 f8 k0 k1 k6 z0 z6; have f0 := Z1.out.frozen 0; have f1 := Z1.out.frozen 1; have f2 := Z1.out.frozen 2; have f3 := Z1.out.frozen 3; have f4 := Z1.out.frozen 4; have f5 := Z1.out.frozen 5; have f6 := Z1.out.frozen 6; have f7 := Z1.out.frozen 7; have f8 := Z1.out.frozen 8; have k6 := Z6.out.cell; have k1 := Z1.out.cell; have z6 := Z6.out.lt)
    all_goals
      go_wp2_with fail
      refine ret_cell2 (t := 35) (cs := #[.string kd.str, .string st.str, .string nm.str, .int .i64 v.kind, .bool v.bool, .int .i64 v.int, .string v.str, .slice za v.list.length zc, .slice zm v.map.length zn]) rfl rfl rfl ?_ Tryd.underlying35 obj_size rfl ?_
      · exact blk_set9 Z1.out
      exact of_ok HE.out HID.out (ZR.out.mono (fun _ _ _ => trivial) (fun b o hS _ => far_set9 (fun e => by rw [e] at hS; exact absurd z1 (Nat.not_lt.2 hS)))) (bel_set9 ZW.out (Nat.le_succ _))
end Go.Proofs.YtdgeegfoocoohaaDoor

/- The twelfth document's example answers true. -/
namespace Go.Proofs.YtdgeegfoocoohaaDoor
open Go.RowKit
attribute [local go_sem ↓] Go.wp_at_zero Go.wp_at_succ

/-- A map that a literal makes. -/
theorem rep_lit {w : World} {S : Nat → Prop} {m : List (ByteArray × T)} {g n : Nat} (hM : RepM w S (some ⟨g, 0, none⟩) m) (hn : n = m.length) (hm : m.length ≤ 1000000) :
    RepT w S (.agg #[.int .i64 5, .bool false, .int .i64 0, .string ⟨#[]⟩, .slice none 0 0, .slice (some ⟨g, 0, none⟩) n n]) (mkMap m) := by
  subst hn
  exact RepT.of (t := mkMap m) (la := none) (lc := 0) (ma := some ⟨g, 0, none⟩) (mc := m.length) ⟨(show i64ok 5 by unfold i64ok; omega), (show i64ok 0 by unfold i64ok; omega), by show ByteArray.size ⟨#[]⟩ ≤ _; simp [ByteArray.size], by simp [mkMap, T.list], (by show m.length * 104 ≤ _; omega), by simp [mkMap, T.list], Nat.le_refl _, by unfold maxLen; omega, by unfold maxLen; omega, fun i hi => by simp [mkMap, T.list] at hi, hM⟩
def svcB : ByteArray := ⟨#[83, 101, 114, 118, 105, 99, 101]⟩
def aB : ByteArray := ⟨#[97]⟩
def depB : ByteArray := ⟨#[68, 101, 112, 108, 111, 121, 109, 101, 110, 116]⟩
def exM : T := mkMap [(nameW, tS aB)]
def exT : T := mkMap [(kindW, tS svcB), (metaW, exM)]
theorem ex_check : exT.check = 0 := by decide +kernel
theorem ex_wt : exT.wt ≤ 6000 := by decide +kernel
theorem ex_kind : getT exT kindW = some (tS svcB) := by simp [getT, exT, mkMap, T.kind, T.map, look]
theorem ex_meta : getT exT metaW = some exM := by
  have h : kindW ≠ metaW := by decide
  simp [getT, exT, mkMap, T.kind, T.map, look, h]
theorem ex_name : getT exM nameW = some (tS aB) := by simp [getT, exM, mkMap, T.kind, T.map, look]
theorem ex_space : getT exM spaceW = none := by
  have h : nameW ≠ spaceW := by decide
  simp [getT, exM, mkMap, T.kind, T.map, look, h]
def exI : ID3 := ⟨svcB, defW, aB⟩
theorem ex_id : idT exT = exI := by
  unfold idT metaT
  rw [ex_kind, ex_meta]
  simp only [Option.getD_some]
  rw [ex_name, ex_space]
  rfl
theorem ex_right : Right3 exI := by decide
theorem ex_ofE : ofE exT = 0 := by
  unfold ofE
  rw [if_neg (by rw [ex_check]; simp), if_pos ⟨by rw [ex_id]; exact ex_right, by rw [ex_id]; decide⟩]
theorem ex_key : keyL exI = [83, 101, 114, 118, 105, 99, 101, 47, 100, 101, 102, 97, 117, 108, 116, 47, 97] := by decide
theorem ex_cmp : cmpID exI ⟨depB, ⟨#[]⟩, ⟨#[]⟩⟩ = -1 := by decide +kernel
theorem ex_small : exI.small := by refine ⟨?_, ?_, ?_⟩ <;> decide
theorem ex_of (w : World) (vv : Value) (h : RepT w (fun _ => True) vv exT) : Calls Tryd.prog 10 #[vv] w (OfPost w exI exT 0) := by
  have := tof exT vv w ex_wt h
  rw [show ofI exT = exI from by unfold ofI; rw [if_pos ex_ofE, ex_id], show ofT exT = exT from by unfold ofT; rw [if_pos ex_ofE], ex_ofE] at this
  exact this
theorem ex_keyC (w : World) : Calls Tryd.prog 11 #[.agg #[.string exI.k, .string exI.s, .string exI.n]] w fun e w' => e = .returned (.string ⟨(keyL exI).toArray⟩) ∧ Below w.heap.size w w' := by
  refine (tkeyO exI ex_small w).mono ?_
  rintro e w' ⟨v, rfl, hv, hb⟩
  obtain rfl : v = ⟨(keyL exI).toArray⟩ := list_ext hv
  exact ⟨rfl, hb⟩
set_option maxRecDepth 100000 in
set_option maxHeartbeats 4000000 in
theorem awake12 (w : World) (hv : ObjV w) : Calls Tryd.prog 5 #[] w fun e w' => e = .returned (.bool true) ∧ Below w.heap.size w w' := by
  have HV := Lib.hid hv
  have gk : ((⟨(keyL exI).toArray⟩ : ByteArray).toList == [83, 101, 114, 118, 105, 99, 101, 47, 100, 101, 102, 97, 117, 108, 116, 47, 97]) = true := by rw [word_eq]; exact decide_eq_true ex_key
  have CK := Lib.hid ex_keyC
  obtain ⟨ks, hks⟩ : ∃ x : ByteArray, x = ⟨(keyL exI).toArray⟩ := ⟨_, rfl⟩
  rw [← hks] at gk CK
  have CC := Lib.hid (fun w2 h => show Calls Tryd.prog 12 #[.agg #[.string exI.k, .string exI.s, .string exI.n], .agg #[.string depB, .string ⟨#[]⟩, .string ⟨#[]⟩]] w2 (fun e w' => e = .returned (.int .i64 (-1)) ∧ Below w2.heap.size w2 w') from ex_cmp ▸ tcmpID exI ⟨depB, ⟨#[]⟩, ⟨#[]⟩⟩ w2 h)
  clear hv hks
  go_enter Tryd.func5, Tryd.ntmps5
  go_wp2_with fail
  obtain ⟨w1, hwz⟩ : ∃ x, x = (((w.alloc (.cells #[.string ⟨#[110, 97, 109, 101]⟩, .int .i64 3, .bool false, .int .i64 0, .string ⟨#[97]⟩, .slice none 0 0, .slice none 0 0] 40)).alloc (.cells #[.string ⟨#[107, 105, 110, 100]⟩, .int .i64 3, .bool false, .int .i64 0, .string ⟨#[83, 101, 114, 118, 105, 99, 101]⟩, .slice none 0 0, .slice none 0 0, .string ⟨#[109, 101, 116, 97, 100, 97, 116, 97]⟩, .int .i64 5, .bool false, .int .i64 0, .string ⟨#[]⟩, .slice none 0 0, .slice (some ⟨w.heap.size, 0, none⟩) 1 1] 40)).alloc (.cells #[.int .i64 5, .bool false, .int .i64 0, .string ⟨#[]⟩, .slice none 0 0, .slice (some ⟨w.heap.size + 1, 0, none⟩) 2 2] 33)) := ⟨_, rfl⟩
  have hb1 : Below w.heap.size w w1 := by rw [hwz]; exact ((Below.new _ _).alloc (by simp) _).alloc (by simp; omega) _
  have hA : Blk w1 w.heap.size 40 #[.string ⟨#[110, 97, 109, 101]⟩, .int .i64 3, .bool false, .int .i64 0, .string ⟨#[97]⟩, .slice none 0 0, .slice none 0 0] := by rw [hwz]; exact ((Blk.new w 40 #[.string ⟨#[110, 97, 109, 101]⟩, .int .i64 3, .bool false, .int .i64 0, .string ⟨#[97]⟩, .slice none 0 0, .slice none 0 0]).alloc _).alloc _
  have hB : Blk w1 (w.heap.size + 1) 40 #[.string ⟨#[107, 105, 110, 100]⟩, .int .i64 3, .bool false, .int .i64 0, .string ⟨#[83, 101, 114, 118, 105, 99, 101]⟩, .slice none 0 0, .slice none 0 0, .string ⟨#[109, 101, 116, 97, 100, 97, 116, 97]⟩, .int .i64 5, .bool false, .int .i64 0, .string ⟨#[]⟩, .slice none 0 0, .slice (some ⟨w.heap.size, 0, none⟩) 1 1] := by rw [hwz]; exact (Blk.new_at _ 40 #[.string ⟨#[107, 105, 110, 100]⟩, .int .i64 3, .bool false, .int .i64 0, .string ⟨#[83, 101, 114, 118, 105, 99, 101]⟩, .slice none 0 0, .slice none 0 0, .string ⟨#[109, 101, 116, 97, 100, 97, 116, 97]⟩, .int .i64 5, .bool false, .int .i64 0, .string ⟨#[]⟩, .slice none 0 0, .slice (some ⟨w.heap.size, 0, none⟩) 1 1] (by simp)).alloc _
  rw [← hwz]
  clear hwz
  have leaf : ∀ s : ByteArray, s.size ≤ 1000 → RepT w1 (fun _ => True) (.agg #[.int .i64 3, .bool false, .int .i64 0, .string s, .slice none 0 0, .slice none 0 0]) (tS s) := fun s hs => rep_leaf w1 _ 3 false 0 s (by unfold i64ok; omega) (by unfold i64ok; omega) (by omega)
  have hM : RepT w1 (fun _ => True) (.agg #[.int .i64 5, .bool false, .int .i64 0, .string ⟨#[]⟩, .slice none 0 0, .slice (some ⟨w.heap.size, 0, none⟩) 1 1]) exM :=
    rep_lit (repE_M.1 (rep_block (E := eltP) (S := fun _ => True) (l := [(nameW, tS aB)]) [[.string nameW, .int .i64 3, .bool false, .int .i64 0, .string aB, .slice none 0 0, .slice none 0 0]] hA rfl trivial ⟨⟨_, rfl, by decide, leaf aB (by decide)⟩, trivial⟩)) rfl (by decide)
  have hT : RepT w1 (fun _ => True) (.agg #[.int .i64 5, .bool false, .int .i64 0, .string ⟨#[]⟩, .slice none 0 0, .slice (some ⟨w.heap.size + 1, 0, none⟩) 2 2]) exT :=
    rep_lit (repE_M.1 (rep_block (E := eltP) (S := fun _ => True) (l := [(kindW, tS svcB), (metaW, exM)]) [[.string kindW, .int .i64 3, .bool false, .int .i64 0, .string svcB, .slice none 0 0, .slice none 0 0], [.string metaW, .int .i64 5, .bool false, .int .i64 0, .string ⟨#[]⟩, .slice none 0 0, .slice (some ⟨w.heap.size, 0, none⟩) 1 1]] hB rfl trivial ⟨⟨_, rfl, by decide, leaf svcB (by decide)⟩, ⟨_, rfl, by decide, hM⟩, trivial⟩)) rfl (by decide)
  have HT := Lib.hid hT
  have HB1 := Lib.hid hb1
  clear hA hB leaf hM hT hb1
  refine (ex_of _ _ HT.out).mono ?_
  rintro e w2 ⟨la, lc, ma, mc, rfl, hr, hb2⟩
  have HB2 := Lib.hid (Below.next HB1.out hb2)
  clear hr hb2
  generalize exT = t at *
  generalize exI.k = ik at *
  generalize exI.s = is at *
  generalize exI.n = ino at *
  go_wp2_with fail
  refine (CK.out _).mono ?_
  rintro e w3 ⟨rfl, hb3⟩
  have HK3 := Lib.hid ((Blk.new w2 35 #[.string ik, .string is, .string ino, .int .i64 t.kind, .bool t.bool, .int .i64 t.int, .string t.str, .slice la t.list.length lc, .slice ma t.map.length mc]).keep hb3)
  have HB3 := Lib.hid (Below.next (Below.next HB2.out (Below.new _ _)) hb3)
  have q3 := HK3.out.cell
  have l3 := HK3.out.lt
  clear hb3
  go_wp2_with fail
  refine (CC.out _ (HV.out.keep HB3.out)).mono ?_
  rintro e w4 ⟨rfl, hb4⟩
  have HB4 := Lib.hid (Below.next HB3.out hb4)
  clear hb4
  go_wp2_with fail
  go_ret
  exact ⟨rfl, HB4.out⟩
end Go.Proofs.YtdgeegfoocoohaaDoor

