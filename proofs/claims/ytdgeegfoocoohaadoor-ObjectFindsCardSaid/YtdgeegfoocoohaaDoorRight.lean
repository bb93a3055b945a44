/- Which values are right: the reference's Check, Light, Right. -/
import Derived.Test.YtdgeegfoocoohaaDoorPartsR
import Derived.Test.YtdgeegfoocoohaaDoorWt
namespace Go.Proofs.YtdgeegfoocoohaaDoor
open Go.RowKit

/-- What is wrong with a value. -/
def T.check (t : T) : Int := if 16 < t.depth then 5 else if 4096 < t.size then 6 else t.parts
def Good (t : T) : Prop := t.wt ≤ 6000 ∧ t.check = 0

theorem size_le_wt (t : T) : t.size ≤ t.wt := by
  induction t using T.ind' with
  | h t ihl ihm =>
    rw [t.wt_eq, t.size_eq]
    have hl : T.sizeL t.list ≤ T.wtL t.list := by
      generalize t.list = l at ihl
      induction l with
      | nil => simp [T.sizeL]
      | cons x l ih =>
        have := ihl x (by simp)
        have := ih (fun y hy => ihl y (by simp [hy]))
        simp only [T.sizeL, T.wtL]; omega
    have hm : T.sizeM t.map ≤ T.wtM t.map := by
      generalize t.map = l at ihm
      induction l with
      | nil => simp [T.sizeM]
      | cons x l ih =>
        obtain ⟨k, x⟩ := x
        have := ihm (k, x) (by simp)
        have := ih (fun y hy => ihm y (by simp [hy]))
        simp only [T.sizeM, T.wtM, T.sizeP, T.wtP] at *; omega
    omega

def LightPost (w : World) (m : Nat) (e : Ending) (w' : World) : Prop := ∃ b : Bool, e = .returned (.bool b) ∧ (b = true → m ≤ 6000) ∧ Below w.heap.size w w'
theorem light (t : T) (w : World) (S : Nat → Prop) (v : Value) (h : RepT w S v t) : Calls Tryd.prog 9 #[v] w (LightPost w t.wt) := by
  have H1 := Lib.hid (fun w v h => weight_any t w S v 0 h (by omega) (by omega))
  obtain ⟨la, lc, ma, mc, rfl, hp⟩ := h.inv
  have HR := Lib.hid h
  clear hp h
  go_enter Tryd.func9, Tryd.ntmps9
  go_wp2_with fail
  refine (H1.out _ _ (HR.out.keep (by exact Below.new _ _))).mono ?_
  rintro e w1 ⟨n, rfl, h0, h1, h2, hb1⟩
  have H2 := Lib.hid h2
  clear h2
  go_wp2_with fail
  go_ret
  exact ⟨_, rfl, fun hb => by have hb' : n ≤ 6000 := (by simpa using hb); have := H2.out hb'; omega, Below.next (Below.new _ _) hb1⟩

def RightPost (w : World) (l : List T) (e : Ending) (w' : World) : Prop := ∃ b : Bool, e = .returned (.bool b) ∧ (b = true → ∀ t ∈ l, Good t) ∧ Below w.heap.size w w'
end Go.Proofs.YtdgeegfoocoohaaDoor
