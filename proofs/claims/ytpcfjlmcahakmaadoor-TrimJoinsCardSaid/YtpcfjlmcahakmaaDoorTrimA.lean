/- trim.add: a token behind the others, if it isn't empty; the library's trimming at blanks. -/
import Derived.Test.YtpcfjlmcahakmaaDoorTrimC
import Derived.Test.YtpcfjlmcahakmaaDoorGenK
import Derived.Shelf.Strings.SlTrimAscii
import Derived.Deep.DrawnRows
import Derived.Deep.DeepCutAuto
namespace Go.Proofs.YtpcfjlmcahakmaaDoor
open Go.RowKit
attribute [local go_sem ↓] Go.wp_at_zero Go.wp_at_succ

theorem tok_info : (Tryd.prog.info? 30).map (fun i => (i.zero, i.size, i.bytes)) = some (some (.agg #[.bool false, .string ⟨#[]⟩, .int .i64 0]), 3, 32) := by kernel_rfl
/-- Tokens as elements. -/
def eltK : Elt Tok where
  ty := 30
  slt := 25
  sz := 3
  bytes := 32
  zero := .agg #[.bool false, .string ⟨#[]⟩, .int .i64 0]
  R _ _ cs x := cs = [.bool x.act, .string ⟨x.s.toArray⟩, .int .i64 x.at_] ∧ x.s.length ≤ 1000000
  len h := by rw [h.1]; rfl
  one h := by
    intro u hu
    rw [h.1] at hu
    simp only [List.mem_cons, List.not_mem_nil, or_false] at hu
    rcases hu with rfl | rfl | rfl <;> rfl
  mono h _ _ := h
  pos := by decide
  hund := Tryd.underlying25
  hinfo := tok_info
  hzero := rfl

theorem add_none' (b o i : Nat) : (⟨b, o, none⟩ : Addr).add i = ⟨b, o + i, none⟩ := by unfold Addr.add; split <;> simp_all
/-- What add hands back. -/
def AddPost (w : World) (B : Nat) (l : List Tok) (e : Ending) (w' : World) : Prop :=
  ∃ A' c', e = .returned (.slice A' l.length c') ∧ OwnE eltK w' B (fun _ => False) A' c' l ∧ Below B w w'

theorem blanks_ascii : ∀ (j : Nat) b, (⟨#[32, 9, 10]⟩ : ByteArray).data.toList[j]? = some b → b.toNat < 128 := Go.Proofs.ascii_of_all (by decide)
theorem ttrim (s : ByteArray) (w : World) (hs : s.size ≤ 1000000) : Calls Tryd.prog 21 #[.string s, .string ⟨#[32, 9, 10]⟩] w fun e w' => e = .returned (.string ⟨(Lib.trimS s.data.toList blanks).toArray⟩) ∧ Below w.heap.size w w' :=
  Any.strings_Trim_laid Tryd.lays160 (by kernel_rfl) s _ w (by omega) (by decide) blanks_ascii
theorem ttrimL (s : ByteArray) (w : World) : Calls Tryd.prog 13 #[.string s, .string ⟨#[32, 9, 10]⟩] w fun e w' => e = .returned (.string ⟨(Lib.trimLeftS s.data.toList blanks).toArray⟩) ∧ Below w.heap.size w w' :=
  Any.strings_TrimLeft_laid Tryd.lays161 (by kernel_rfl) s _ w (by decide) blanks_ascii
theorem ttrimR (s : ByteArray) (w : World) (hs : s.size ≤ 1000000) : Calls Tryd.prog 12 #[.string s, .string ⟨#[32, 9, 10]⟩] w fun e w' => e = .returned (.string ⟨(Lib.trimRightS s.data.toList blanks).toArray⟩) ∧ Below w.heap.size w w' :=
  Any.strings_TrimRight_laid Tryd.lays162 (by kernel_rfl) s _ w (by omega) (by decide) blanks_ascii

/-- One token appended to a row of the call's own: behind a block that holds it, and another one. -/
theorem tok_append {w : World} {B : Nat} {A : Option Addr} {c : Nat} {l : List Tok} {x : Tok} (hl : OwnE eltK w B (fun _ => False) A c l) (hn : l.length ≤ 1000000) (hs : x.s.length ≤ 1000000) (hB : B ≤ w.heap.size) :
    ∃ A' c' w', (Builtin.append_ #[25, 25] 25 #[.slice A l.length c, .slice (some ⟨w.heap.size + 1, 0, none⟩) 1 1]).run Tryd.prog ((w.alloc (.cells #[.bool x.act, .string ⟨x.s.toArray⟩, .int .i64 x.at_] 30)).alloc (.cells #[.bool x.act, .string ⟨x.s.toArray⟩, .int .i64 x.at_] 30)) = .ok (.slice A' (l ++ [x]).length c') w' ∧
      OwnE eltK w' B (fun _ => False) A' c' (l ++ [x]) ∧ Below B w w' := by
  have hb2 := (Below.new w (.cells #[.bool x.act, .string ⟨x.s.toArray⟩, .int .i64 x.at_] 30)).alloc (by simp) (.cells #[.bool x.act, .string ⟨x.s.toArray⟩, .int .i64 x.at_] 30)
  obtain ⟨A', c', w', h1, h2, h3⟩ := own_append (l2 := [x]) (es := [.bool x.act, .string ⟨x.s.toArray⟩, .int .i64 x.at_]) (ad := ⟨w.heap.size + 1, 0, none⟩) (cc := 1) (ty := 25) (t := 25) rfl (hl.keep hb2) (by show (l.length + 1) * 32 ≤ _; omega) (by show l.length + 1 ≤ _; unfold maxLen; omega) (by have := hb2.size; omega) rfl
    (fun j u hu => by
      rw [add_none']
      rw [(Blk.new_at (w.alloc (.cells #[.bool x.act, .string ⟨x.s.toArray⟩, .int .i64 x.at_] 30)) 30 #[.bool x.act, .string ⟨x.s.toArray⟩, .int .i64 x.at_] (n := w.heap.size + 1) (by simp)).cell]
      simpa using hu)
    (fun i hi => by
      have : i = 0 := by simpa using hi
      subst this
      exact ⟨rfl, hs⟩)
  refine ⟨A', c', w', h1, h2, ?_⟩
  have hg : ∀ g, Value.ownBlock (.slice A l.length c) = some g → B ≤ g := fun g e => (hl.own g e).1
  exact (hb2.mono hB).trans ⟨h3.os, h3.tape, h3.output, h3.size, fun b hb => h3.block b (by have := hb2.size; omega) (fun e => by have := hg b e.symm; omega)⟩

set_option maxRecDepth 100000 in
theorem tadd (B : Nat) (A : Option Addr) (c : Nat) (l : List Tok) (s : List UInt8) (k : Nat) (w : World) (hl : OwnE eltK w B (fun _ => False) A c l) (hn : l.length ≤ 1000000) (hs : s.length ≤ 1000000) (hB : B ≤ w.heap.size) :
    Calls Tryd.prog 18 #[.slice A l.length c, .agg #[.bool false, .string ⟨s.toArray⟩, .int .i64 k]] w (AddPost w B (l ++ txt s k)) := by
  by_cases h0 : s = []
  · subst h0
    have HL := Lib.hid hl
    clear hl
    have e0 : ((⟨#[]⟩ : ByteArray) == ⟨#[]⟩) = true := by decide
    go_enter Tryd.func18, Tryd.ntmps18
    go_wp2_with fail
    go_ret
    exact ⟨A, c, by simp [txt], by simpa [txt] using HL.out.keep (Below.new _ _), (Below.refl _ _).alloc hB _⟩
  · have HL := Lib.hid hl
    clear hl
    have e0 : s.toArray.toList.isEmpty = false := by simpa using h0
    have HS := Lib.hid h0
    clear h0
    obtain ⟨A', c', w', hrun, hown, hgr⟩ := tok_append (x := ⟨false, s, k⟩) HL.out hn hs hB
    have HO := Lib.hid hown; have HG := Lib.hid hgr
    clear hown hgr
    go_enter Tryd.func18, Tryd.ntmps18
    go_wp2_with (at_builtin; refine wpList_append_run rfl (.tmp 9) (.tmp 11) 25 rfl hrun rfl rfl ?_)
    go_ret
    exact ⟨A', c', by simp [txt, HS.out], by simpa [txt, HS.out] using HO.out, HG.out⟩

/-- A text that a call hands back, and old memory as it was. -/
def StrPost (w : World) (l : List UInt8) (e : Ending) (w' : World) : Prop := ∃ v : ByteArray, e = .returned (.string v) ∧ v.data.toList = l ∧ Below w.heap.size w w'
theorem strPost {p : Program} {n : Nat} {args : Array Value} {w : World} {l : List UInt8} (h : Calls p n args w fun e w' => e = .returned (.string ⟨l.toArray⟩) ∧ Below w.heap.size w w') : Calls p n args w (StrPost w l) :=
  h.mono fun _ _ ⟨he, hb⟩ => ⟨_, he, rfl, hb⟩
theorem addv (B : Nat) (A : Option Addr) (c : Nat) (l : List Tok) (v : ByteArray) (k : Nat) (w : World) (hl : OwnE eltK w B (fun _ => False) A c l) (hn : l.length ≤ 1000000) (hs : v.size ≤ 1000000) (hB : B ≤ w.heap.size) :
    Calls Tryd.prog 18 #[.slice A l.length c, .agg #[.bool false, .string v, .int .i64 k]] w (AddPost w B (l ++ txt v.data.toList k)) := tadd B A c l v.data.toList k w hl hn (by simpa using hs) hB
theorem tprefix (s p : ByteArray) (w : World) : Calls Tryd.prog 20 #[.string s, .string p] w fun e w' => e = .returned (.bool (Lib.hasPrefix s.data.toList p.data.toList)) ∧ w = w' := (Tryd.strings_HasPrefix s p w).mono fun _ _ h => ⟨h.1, h.2.symm⟩
theorem tsuffix (s p : ByteArray) (w : World) (hs : s.size ≤ 1000000) : Calls Tryd.prog 9 #[.string s, .string p] w fun e w' => e = .returned (.bool (Lib.hasSuffix s.data.toList p.data.toList)) ∧ w = w' := (Tryd.strings_HasSuffix s p w (by omega)).mono fun _ _ h => ⟨h.1, h.2.symm⟩
/-- Where two open braces stand. -/
def braceI : Option Nat → Int
  | none => -1
  | some o => o
theorem tindex (s : ByteArray) (m : Int) (w : World) (hs : s.size ≤ 1000000) (hm : w.cell? ⟨0, 0, none⟩ = some (.int .i64 m)) :
    Calls Tryd.prog 17 #[.string s, .string ⟨#[123, 123]⟩] w fun e w' => e = .returned (.int .i64 (braceI (find2 123 s.data.toList))) ∧ w = w' := by
  have h := Tryd.strings_Index s ⟨#[123, 123]⟩ m w (by omega) hm
  have e : Lib.index s.data.toList (⟨#[123, 123]⟩ : ByteArray).data.toList = braceI (find2 123 s.data.toList) := (find2_index 123 _).trans (by cases find2 123 s.data.toList <;> rfl)
  rw [e] at h
  exact h.mono fun _ _ h => ⟨h.1, h.2.symm⟩
theorem size_list (v : ByteArray) : v.size = v.data.toList.length := by simp
end Go.Proofs.YtpcfjlmcahakmaaDoor
