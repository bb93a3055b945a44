/- Several texts as one. -/
import Derived.Test.YtgbbojnigicnoaaDoorNeat
import Derived.Test.YtgbbojnigicnoaaDoorTrPL
import Derived.Lib.ItoaNum
/- Schemas, plainly: which values are schemas; the flaws of a value by a schema. -/
namespace Go.Proofs.YtgbbojnigicnoaaDoor

def typeW : ByteArray := ⟨#[116, 121, 112, 101]⟩
def closedW : ByteArray := ⟨#[99, 108, 111, 115, 101, 100]⟩
def leastW : ByteArray := ⟨#[108, 101, 97, 115, 116]⟩
def mostW : ByteArray := ⟨#[109, 111, 115, 116]⟩
def oneW : ByteArray := ⟨#[111, 110, 101]⟩
def reqW : ByteArray := ⟨#[114, 101, 113, 117, 105, 114, 101, 100]⟩
def itemsW : ByteArray := ⟨#[105, 116, 101, 109, 115]⟩
def keysW : ByteArray := ⟨#[107, 101, 121, 115]⟩
def anyW : ByteArray := ⟨#[97, 110, 121]⟩
/-- The words of kinds. -/
def kindsW : List ByteArray := [⟨#[110, 117, 108, 108]⟩, ⟨#[98, 111, 111, 108]⟩, ⟨#[105, 110, 116]⟩, ⟨#[116, 101, 120, 116]⟩, ⟨#[108, 105, 115, 116]⟩, ⟨#[109, 97, 112]⟩]
def kindW (k : Int) : ByteArray := kindsW.getD k.toNat ⟨#[]⟩

mutual
/-- Is it a schema? -/
def T.sch : T → Bool
  | .mk k _ _ _ _ m => decide (k = 5) && T.schM m
def T.schM : List (ByteArray × T) → Bool
  | [] => true
  | p :: r => T.schP p && T.schM r
def T.schP : (ByteArray × T) → Bool
  | (w, .mk k b n s l m) =>
    if w = typeW then decide (k = 3) && (decide (s = anyW) || kindsW.any fun z => decide (s = z))
    else if w = closedW then decide (k = 1)
    else if w = leastW then decide (k = 2)
    else if w = mostW then decide (k = 2)
    else if w = oneW then decide (k = 4)
    else if w = reqW then decide (k = 4) && l.all fun y => decide (y.kind = 3)
    else if w = itemsW then T.sch (.mk k b n s l m)
    else if w = keysW then decide (k = 5) && T.schA m
    else false
def T.schA : List (ByteArray × T) → Bool
  | [] => true
  | p :: r => T.schQ p && T.schA r
def T.schQ : (ByteArray × T) → Bool
  | (_, x) => x.sch
end
theorem sch_eq (t : T) : t.sch = (decide (t.kind = 5) && t.map.all T.schP) := by
  have h : ∀ m, T.schM m = m.all T.schP := by
    intro m
    induction m with
    | nil => rfl
    | cons p r ih => rw [T.schM, ih, List.all_cons]
  cases t with
  | mk k b n s l m => rw [T.sch, h]; rfl
theorem schP_eq (w : ByteArray) (x : T) : T.schP (w, x) =
    if w = typeW then decide (x.kind = 3) && (decide (x.str = anyW) || kindsW.any fun z => decide (x.str = z))
    else if w = closedW then decide (x.kind = 1)
    else if w = leastW then decide (x.kind = 2)
    else if w = mostW then decide (x.kind = 2)
    else if w = oneW then decide (x.kind = 4)
    else if w = reqW then decide (x.kind = 4) && x.list.all fun y => decide (y.kind = 3)
    else if w = itemsW then x.sch
    else if w = keysW then decide (x.kind = 5) && x.map.all fun p => p.2.sch
    else false := by
  have hQ : ∀ p : ByteArray × T, T.schQ p = p.2.sch := fun p => by cases p; rw [T.schQ]
  have h : ∀ m, T.schA m = m.all fun p => p.2.sch := by
    intro m
    induction m with
    | nil => rfl
    | cons p r ih => rw [T.schA, ih, List.all_cons, hQ]
  cases x with
  | mk k b n s l m => rw [T.schP, h]; rfl

/-- A flaw: its kind, and the steps to it. -/
abbrev FlawT := Int × List ByteArray
def itoaB (i : Nat) : ByteArray := ⟨(Lib.itoa (i : Int)).toArray⟩
/-- What a schema asks of a value's size. -/
def sizeT (t : T) : Int := if t.kind = 2 then t.int else (t.str.size + t.list.length + t.map.length : Nat)
def typeBad (s t : T) : Bool := match getT s typeW with
  | some x => decide (x.str ≠ anyW) && decide (x.str ≠ kindW t.kind)
  | none => false
def leastF (s t : T) (at_ : List ByteArray) : List FlawT := match getT s leastW with
  | some x => if 2 ≤ t.kind ∧ sizeT t < x.int then [(4, at_)] else []
  | none => []
def mostF (s t : T) (at_ : List ByteArray) : List FlawT := match getT s mostW with
  | some x => if 2 ≤ t.kind ∧ x.int < sizeT t then [(5, at_)] else []
  | none => []
def oneF (s t : T) (at_ : List ByteArray) : List FlawT := match getT s oneW with
  | some x => if x.list.any (fun y => decide (T.cmp y t = 0)) then [] else [(6, at_)]
  | none => []
def needP (t : T) (at_ : List ByteArray) (x : T) : List FlawT := if (getT t x.str).isSome then [] else [(2, at_ ++ [x.str])]
def needF (s t : T) (at_ : List ByteArray) : List FlawT := ((getT s reqW).getD T.zero).list.flatMap (needP t at_)
mutual
/-- All flaws of a value by a schema. -/
def T.chk : T → T → List ByteArray → List FlawT
  | .mk k b n str l m, s, at_ =>
    if typeBad s (.mk k b n str l m) then [(1, at_)]
    else leastF s (.mk k b n str l m) at_ ++ mostF s (.mk k b n str l m) at_ ++ oneF s (.mk k b n str l m) at_ ++
      T.chkL l (getT s itemsW) 0 at_ ++ (if k = 5 then needF s (.mk k b n str l m) at_ ++ T.chkM m ((getT s keysW).getD T.zero) ((getT s closedW).getD T.zero).bool at_ else [])
def T.chkL : List T → Option T → Nat → List ByteArray → List FlawT
  | [], _, _, _ => []
  | x :: r, s, i, at_ => (match s with | some s => T.chk x s (at_ ++ [itoaB i]) | none => []) ++ T.chkL r s (i + 1) at_
def T.chkM : List (ByteArray × T) → T → Bool → List ByteArray → List FlawT
  | [], _, _, _ => []
  | p :: r, ks, cl, at_ => T.chkP p ks cl at_ ++ T.chkM r ks cl at_
def T.chkP : (ByteArray × T) → T → Bool → List ByteArray → List FlawT
  | (k, x), ks, cl, at_ => match getT ks k with
    | some s => T.chk x s (at_ ++ [k])
    | none => if cl then [(3, at_ ++ [k])] else []
end
theorem chk_eq (t s : T) (at_ : List ByteArray) : t.chk s at_ = if typeBad s t then [(1, at_)] else leastF s t at_ ++ mostF s t at_ ++ oneF s t at_ ++ T.chkL t.list (getT s itemsW) 0 at_ ++ (if t.kind = 5 then needF s t at_ ++ T.chkM t.map ((getT s keysW).getD T.zero) ((getT s closedW).getD T.zero).bool at_ else []) := by
  cases t; rw [T.chk]; rfl
theorem chkP_eq (p : ByteArray × T) (ks : T) (cl : Bool) (at_ : List ByteArray) : T.chkP p ks cl at_ = match getT ks p.1 with
    | some s => p.2.chk s (at_ ++ [p.1])
    | none => if cl then [(3, at_ ++ [p.1])] else [] := by cases p; rw [T.chkP]
end Go.Proofs.YtgbbojnigicnoaaDoor

/- Flaws, plainly: step by step; how many they are; what may be asked of what is in a value. -/
namespace Go.Proofs.YtgbbojnigicnoaaDoor

/-- What may be: of the right form, and not too great. -/
def FineT (t : T) : Prop := t.parts = 0 ∧ t.wt ≤ 6000
theorem wt_zeroF : T.zero.wt = 1 := by rw [T.wt_eq]; simp [T.zero, T.str, T.list, T.map, T.wtL, T.wtM]; rfl
theorem fine_zero : FineT T.zero := ⟨by decide +kernel, by rw [wt_zeroF]; omega⟩
theorem wtL_mem : ∀ (l : List T) (x : T), x ∈ l → x.wt ≤ T.wtL l
  | y :: r, x, h => by
    rw [T.wtL]
    rcases List.mem_cons.1 h with rfl | h
    · omega
    · have := wtL_mem r x h; omega
theorem list_wtF {t x : T} (h : x ∈ t.list) : x.wt < t.wt := by have := wtL_mem _ _ h; rw [T.wt_eq t]; omega
theorem FineT.list {t x : T} (h : FineT t) (hx : x ∈ t.list) : FineT x := ⟨(parts_iff.1 h.1).2.2.1 x hx, by have := list_wtF hx; have := h.2; omega⟩
theorem FineT.map {t : T} (h : FineT t) {p : ByteArray × T} (hp : p ∈ t.map) : FineT p.2 := ⟨((parts_iff.1 h.1).2.2.2.1 p hp).2, by have := wt_sub p hp; have := h.2; omega⟩
theorem FineT.getT {t x : T} {k : ByteArray} (h : FineT t) (hx : getT t k = some x) : FineT x := by
  unfold Go.Proofs.YtgbbojnigicnoaaDoor.getT at hx
  split at hx
  · exact h.map (look_mem hx)
  · cases hx
theorem FineT.getD {t : T} (h : FineT t) (k : ByteArray) : FineT ((Go.Proofs.YtgbbojnigicnoaaDoor.getT t k).getD T.zero) := by
  cases hx : Go.Proofs.YtgbbojnigicnoaaDoor.getT t k with
  | none => exact fine_zero
  | some x => exact h.getT hx
theorem FineT.KS {t : T} (h : FineT t) : KS t.map := parts_KS h.1
theorem FineT.kind {t : T} (h : FineT t) : 0 ≤ t.kind ∧ t.kind ≤ 5 := by
  have hb := (parts_iff.1 h.1).1
  unfold T.bareB at hb
  simp only [Bool.and_eq_true, Bool.or_eq_true, decide_eq_true_eq] at hb
  omega

/-- Of a list's value. -/
def chkI (x : T) (s : Option T) (i : Nat) (l : List ByteArray) : List FlawT := match s with | some s => x.chk s (l ++ [itoaB i]) | none => []
theorem chkL_cons (x : T) (r : List T) (s : Option T) (i : Nat) (l : List ByteArray) : T.chkL (x :: r) s i l = chkI x s i l ++ T.chkL r s (i + 1) l := by cases s <;> simp only [T.chkL, chkI, List.nil_append]
theorem chkL_take (xs : List T) (s : Option T) (l : List ByteArray) : ∀ (i q : Nat) (h : q < xs.length), T.chkL (xs.take (q + 1)) s i l = T.chkL (xs.take q) s i l ++ chkI xs[q] s (i + q) l := by
  induction xs with
  | nil => intro i q h; simp at h
  | cons x r ih =>
    intro i q h
    cases q with
    | zero => rw [List.take_succ_cons, chkL_cons]; simp only [List.take_zero, T.chkL, List.append_nil, List.nil_append, List.getElem_cons_zero, Nat.add_zero]
    | succ q =>
      rw [List.take_succ_cons, List.take_succ_cons, chkL_cons, chkL_cons, ih (i + 1) q (by simpa using h), List.append_assoc, List.getElem_cons_succ, show i + 1 + q = i + (q + 1) by omega]
theorem chkL_len (xs : List T) (s : Option T) (l : List ByteArray) (i : Nat) : ∀ q, (T.chkL (xs.take q) s i l).length ≤ (T.chkL xs s i l).length := by
  induction xs generalizing i with
  | nil => intro q; simp
  | cons x r ih =>
    intro q
    cases q with
    | zero => simp [T.chkL]
    | succ q =>
      rw [List.take_succ_cons, chkL_cons, chkL_cons, List.length_append, List.length_append]
      have := ih (i + 1) q
      omega
theorem chkM_take (m : List (ByteArray × T)) (ks : T) (cl : Bool) (l : List ByteArray) : ∀ (q : Nat) (h : q < m.length), T.chkM (m.take (q + 1)) ks cl l = T.chkM (m.take q) ks cl l ++ T.chkP m[q] ks cl l := by
  induction m with
  | nil => intro q h; simp at h
  | cons x r ih =>
    intro q h
    cases q with
    | zero => simp [T.chkM]
    | succ q =>
      rw [List.take_succ_cons, List.take_succ_cons, T.chkM, T.chkM, ih q (by simpa using h), List.append_assoc, List.getElem_cons_succ]
theorem chkM_len (m : List (ByteArray × T)) (ks : T) (cl : Bool) (l : List ByteArray) : ∀ q, (T.chkM (m.take q) ks cl l).length ≤ (T.chkM m ks cl l).length := by
  induction m with
  | nil => intro q; simp
  | cons x r ih =>
    intro q
    cases q with
    | zero => simp [T.chkM]
    | succ q =>
      rw [List.take_succ_cons, T.chkM, T.chkM, List.length_append, List.length_append]
      have := ih q
      omega
theorem flat_takeF {α β : Type} (xs : List α) (f : α → List β) {q : Nat} (h : q < xs.length) : (xs.take (q + 1)).flatMap f = (xs.take q).flatMap f ++ f xs[q] := by
  rw [List.take_succ_eq_append_getElem h, List.flatMap_append]; simp
theorem flat_lenF {α β : Type} (xs : List α) (f : α → List β) (q : Nat) : ((xs.take q).flatMap f).length ≤ (xs.flatMap f).length := by
  conv => rhs; rw [← List.take_append_drop q xs]
  rw [List.flatMap_append, List.length_append]; omega
theorem wtM_mem : ∀ (m : List (ByteArray × T)) (p : ByteArray × T), p ∈ m → p.2.wt ≤ T.wtM m
  | q :: r, p, h => by
    obtain ⟨k, x⟩ := q
    rcases List.mem_cons.1 h with rfl | h
    · simp only [T.wtM]; first | omega | (simp only [T.wtP]; omega)
    · have := wtM_mem r p h; simp only [T.wtM]; omega
/-- How many flaws there are at most. -/
theorem chk_len (n : Nat) : ∀ (t s : T) (l : List ByteArray), t.wt ≤ n → s.wt ≤ 6000 → (t.chk s l).length ≤ t.wt * 6010 := by
  induction n with
  | zero => intro t s l h _; rw [T.wt_eq] at h; omega
  | succ n ih =>
    intro t s l hn hs
    have hL : ∀ (xs : List T) (o : Option T) (i : Nat), (∀ x ∈ xs, x.wt ≤ n) → (∀ s', o = some s' → s'.wt ≤ 6000) → (T.chkL xs o i l).length ≤ T.wtL xs * 6010 := by
      intro xs
      induction xs with
      | nil => intro o i _ _; simp [T.chkL]
      | cons x r ih2 =>
        intro o i hx ho
        rw [chkL_cons, T.wtL, List.length_append, Nat.add_mul]
        have h1 := ih2 o (i + 1) (fun y hy => hx y (List.mem_cons_of_mem _ hy)) ho
        have h2 : (chkI x o i l).length ≤ x.wt * 6010 := by
          unfold chkI
          cases o with
          | none => simp
          | some s' => exact ih x s' _ (hx x List.mem_cons_self) (ho s' rfl)
        omega
    have hM : ∀ (m : List (ByteArray × T)) (ks : T) (cl : Bool), (∀ p ∈ m, p.2.wt ≤ n) → ks.wt ≤ 6000 → (T.chkM m ks cl l).length ≤ T.wtM m * 6010 := by
      intro m
      induction m with
      | nil => intro ks cl _ _; simp [T.chkM]
      | cons p r ih2 =>
        intro ks cl hx hk
        obtain ⟨k, x⟩ := p
        rw [T.chkM, List.length_append]
        have h1 := ih2 ks cl (fun y hy => hx y (List.mem_cons_of_mem _ hy)) hk
        have h2 : (T.chkP (k, x) ks cl l).length ≤ x.wt * 6010 := by
          rw [chkP_eq]
          cases hg : getT ks k with
          | none =>
            have : 1 ≤ x.wt := by rw [T.wt_eq]; omega
            dsimp only
            split
            · show 1 ≤ _; omega
            · exact Nat.zero_le _
          | some s' =>
            refine ih x s' _ (hx _ List.mem_cons_self) ?_
            unfold getT at hg
            split at hg
            · have := wt_sub _ (look_mem hg); simp only at this; omega
            · cases hg
        have h3 : T.wtM ((k, x) :: r) ≥ x.wt + T.wtM r := by simp only [T.wtM]; first | omega | (simp only [T.wtP]; omega)
        have h4 := Nat.mul_le_mul_right 6010 h3
        rw [Nat.add_mul] at h4
        omega
    rw [chk_eq]
    have hw := T.wt_eq t
    split
    · simp; omega
    · simp only [List.length_append]
      have l1 : (leastF s t l).length ≤ 1 := by unfold leastF; split <;> (try split) <;> simp
      have l2 : (mostF s t l).length ≤ 1 := by unfold mostF; split <;> (try split) <;> simp
      have l3 : (oneF s t l).length ≤ 1 := by unfold oneF; split <;> (try split) <;> simp
      have hsub : ∀ k, ((getT s k).getD T.zero).wt ≤ 6000 := fun k => by
        unfold getT
        split
        · cases hl : look s.map k with
          | none => show T.zero.wt ≤ _; rw [wt_zeroF]; omega
          | some x => have := wt_sub (k, x) (look_mem hl); simp only [Option.getD_some] at *; omega
        · show T.zero.wt ≤ _; rw [wt_zeroF]; omega
      have l4 := hL t.list (getT s itemsW) 0 (fun x hx => by have := list_wtF hx; omega) (fun s' e => by have := hsub itemsW; rw [e] at this; exact this)
      have l5 : (if t.kind = 5 then needF s t l ++ T.chkM t.map ((getT s keysW).getD T.zero) ((getT s closedW).getD T.zero).bool l else []).length ≤ 6000 + T.wtM t.map * 6010 := by
        split
        · rw [List.length_append]
          have h1 := hM t.map ((getT s keysW).getD T.zero) ((getT s closedW).getD T.zero).bool (fun p hp => by have := wtM_mem t.map p hp; omega) (hsub keysW)
          have h2 : (needF s t l).length ≤ 6000 := by
            unfold needF
            have h3 : ∀ xs : List T, (xs.flatMap (needP t l)).length ≤ xs.length := by
              intro xs
              induction xs with
              | nil => simp
              | cons x r ih2 =>
                rw [List.flatMap_cons, List.length_append, List.length_cons]
                have : (needP t l x).length ≤ 1 := by unfold needP; split <;> simp
                omega
            have h4 := h3 ((getT s reqW).getD T.zero).list
            have h5 := hsub reqW
            have h6 : ∀ xs : List T, xs.length ≤ T.wtL xs := by
              intro xs
              induction xs with
              | nil => simp
              | cons x r ih2 => rw [T.wtL, T.wt_eq]; simp; omega
            have h7 := h6 ((getT s reqW).getD T.zero).list
            have h8 := T.wt_eq ((getT s reqW).getD T.zero)
            omega
          omega
        · simp
      rw [hw, Nat.add_mul, Nat.add_mul, Nat.add_mul]
      omega
end Go.Proofs.YtgbbojnigicnoaaDoor

