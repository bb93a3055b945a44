/- Several texts as one. -/
import Derived.Test.YtnblmhfgmehnnaaGreatDoorPeMv
import Derived.WalkKit
import Derived.WalkSpells
import Derived.WalkLawsBesides
import Derived.Lib.Hide
import Derived.Deep.Quiet
import Derived.Test.YtnblmhfgmehnnaaGreatDoorRows
import Derived.BigQuiet
import Derived.Deep.DrawnRows
import Derived.Lib.SlTrimSet
import Derived.Lib.IndexBytes
import Derived.Lib.Index
import Derived.Lib.ParseIntB
import Derived.Lib.ParseIntBTie
import Derived.Lib.ItoaNum
import Derived.Lib.Bytealg
import Derived.Deep.RegionHeld3
import Derived.Deep.DeepCutAuto
import Derived.Deep.QuietTactic
import Derived.Test.YtnblmhfgmehnnaaGreatDoorShv
namespace Go.Proofs.YtnblmhfgmehnnaaGreatDoor
open Go.RowKit
def i64ok (n:Int):Prop:= -9223372036854775808<=n/\n<=9223372036854775807
def cellsAt (w:World) (b o:Nat) (cs:List Value):Prop:=∀ j v,cs[j]? =some v->w.cell? ⟨b,o+j,none⟩=some v
theorem cellsAt.lt {w:World} {b o:Nat} {c:Value} {cs:List Value} (h:cellsAt w b o (c::cs)):b < w.heap.size:=
 block_lt_of_cell (h 0 c rfl)
theorem cellsAt.keep {w w':World} {b o:Nat} {cs:List Value} (h:cellsAt w b o cs) (hw:∀ i,w'.cell? ⟨b,i,none⟩=w.cell? ⟨b,i,none⟩):cellsAt w' b o cs:=
 fun j v hv=>(hw _).trans (h j v hv)
def Blk (w:World) (g:Nat) (t:TypeId) (cs:Array Value):Prop:=w.heap[g]? =some (.cells cs t (0,0))
section
variable {w w':World} {g:Nat} {t:TypeId} {cs:Array Value}
theorem Blk.lt (h:Blk w g t cs):g < w.heap.size:=by
 rcases Nat.lt_or_ge g w.heap.size with hlt | hge
 ·exact hlt
 ·unfold Blk at h;rw [Array.getElem?_eq_none hge] at h;cases h
theorem Blk.cell (h:Blk w g t cs) (i:Nat):w.cell? ⟨g,i,none⟩=cs[i]? :=cell_of_row w g i cs t (0,0) h
theorem Blk.frozen (h:Blk w g t cs) (i:Nat):w.frozen? ⟨g,i,none⟩=false:=by
 unfold Blk at h
 simp [World.frozen?,h]
theorem Blk.new (w:World) (t:TypeId) (cs:Array Value):Blk (w.alloc (.cells cs t)) w.heap.size t cs:=heap_alloc_new w _
theorem Blk.new_at (w:World) (t:TypeId) (cs:Array Value) {n:Nat} (hn:n=w.heap.size):Blk (w.alloc (.cells cs t)) n t cs:=hn ▸ heap_alloc_new w _
theorem Blk.drew (h:Blk w g t cs):Blk w.drew g t cs:=h
theorem Blk.alloc (h:Blk w g t cs) (o:Obj):Blk (w.alloc o) g t cs:=(Below.heap_alloc w o g h.lt).trans h
theorem Blk.set_ (h:Blk w g t cs) (i:Nat) (u:Value):Blk (w.setCell ⟨g,i,none⟩ u) g t (cs.setIfInBounds i u):=by
 unfold Blk at h ⊢
 simp [World.setCell,Array.getElem?_modify,h]
theorem Blk.far (h:Blk w g t cs) {p:Addr} (hp:g≠p.block) (u:Value):Blk (w.setCell p u) g t cs:=(Below.heap_setCell w p u g hp).trans h
theorem Blk.keep (h:Blk w g t cs) (hb:Below w.heap.size w w'):Blk w' g t cs:=(hb.block g h.lt).trans h
end
theorem Below.drewN {B:Nat} {a w:World} (h:Below B a w) (n:Nat):Below B a (w.drewN n):=⟨h.os,h.tape,h.output,h.size,h.block⟩
theorem Below.new (w:World) (o:Obj):Below w.heap.size w (w.alloc o):=(Below.refl _ _).alloc (Nat.le_refl _) o
theorem Below.next {a b c:World} (h:Below a.heap.size a b) (k:Below b.heap.size b c):Below a.heap.size a c:=h.trans (k.mono h.size)
def RepI (w:World) (S:Nat->Prop) (k:IntKind) (a:OA_) (xs:List Int):Prop:=
 ∀ i (h:i < xs.length),∃ b o,a=some ⟨b,o,none⟩/\S b/\b < w.heap.size/\w.cell? ⟨b,o+i,none⟩=some (.int k xs[i])
theorem wrap_fit {x:Int} (h0: -9223372036854775808<=x) (h1:x<=9223372036854775807):IntKind.i64.wrap x=x:=by
 simp [IntKind.wrap_i64];omega
theorem bcell {W w1:World} (hb:Below W.heap.size W w1):(∀ b o,b < W.heap.size->w1.cell? ⟨b,o,none⟩=W.cell? ⟨b,o,none⟩)/\(∀ b o,b < W.heap.size->w1.frozen? ⟨b,o,none⟩=W.frozen? ⟨b,o,none⟩):=
 ⟨fun b o h=>hb.cell (p:=⟨b,o,none⟩) h,fun b o h=>hb.frozen (p:=⟨b,o,none⟩) h⟩
end Go.Proofs.YtnblmhfgmehnnaaGreatDoor
namespace Go.Proofs.YtnblmhfgmehnnaaGreatDoor
theorem byte_list {s:ByteArray} {k:Nat} (h:k < s.size):s.data.toList.drop k=s[k]::s.data.toList.drop (k+1):=by
 have hl:k < s.data.toList.length:=by simpa using h
 rw [List.drop_eq_getElem_cons hl];rfl
theorem drop_end {s:ByteArray} {k:Nat} (h:s.size<=k):s.data.toList.drop k=[]:=List.drop_eq_nil_of_le (by simpa using h)
theorem size_list (v:ByteArray):v.size=v.data.toList.length:=by simp
theorem app_list (a b:ByteArray):(a++b).data.toList=a.data.toList++b.data.toList:=by simp
theorem take_byte {s:ByteArray} {k:Nat} (h:k < s.size):s.data.toList.take (k+1)=s.data.toList.take k++[s[k]]:=by
 have hl:k < s.data.toList.length:=by simpa using h
 rw [List.take_succ_eq_append_getElem hl];rfl
theorem take_all (s:ByteArray):s.data.toList.take s.size=s.data.toList:=by rw [size_list,List.take_length]
theorem extract_list (s:ByteArray) (a b:Nat):(s.extract a b).data.toList=(s.data.toList.drop a).take (b - a):=Lib.extract_data s a b
theorem one_byte {s:ByteArray} {k:Nat} (h:k < s.size):(s.extract k (k+1)).data.toList=[s[k]]:=by
 rw [extract_list,byte_list h];simp
theorem tail_list {s:ByteArray} {k:Nat}:(s.extract k s.size).data.toList=s.data.toList.drop k:=Lib.extract_to_end s k
theorem list_ext {a b:ByteArray} (h:a.data.toList=b.data.toList):a=b:=by
 apply ByteArray.ext;apply Array.ext';exact h
theorem u8_eq {a:UInt8} {n:Nat} (hn:n < 256):((a.toNat:Int)==(n:Int))=(a==UInt8.ofNat n):=by
 by_cases h:a=UInt8.ofNat n
 ·subst h;simp;omega
 ·have h1:(a.toNat:Int)≠n:=fun e=>h (by apply UInt8.toNat_inj.1;rw [UInt8.toNat_ofNat'];omega)
  rw [bf_ h1,bf_ h]
def blanks:LB_:=[32,9,10]
structure Tok where
 act:Bool
 s:LB_
 at_:Nat
deriving DecidableEq
def find2 (c:UInt8):LB_->Option Nat
 | []=>none
 | [_]=>none
 | a::b::l=>if a=c/\b=c then some 0 else (find2 c (b::l)).map (·+1)
def clos:Bool->LB_->Option Nat
 | _,[]=>none
 | false,[_]=>none
 | false,a::b::l=>if a=125/\b=125 then some 0 else if a=34 then (clos true (b::l)).map (·+1) else (clos false (b::l)).map (·+1)
 | true,[_]=>none
 | true,a::b::l=>if a=34 then (clos false (b::l)).map (·+1) else if a=92 then (clos true l).map (·+2) else (clos true (b::l)).map (·+1)
termination_by _ l=>l.length
def dashL (raw:LB_):Bool:=raw==[45] || Lib.hasPrefix raw [45,32]
def raw1 (raw:LB_):LB_:=if dashL raw then raw.drop 1 else raw
def dashR (raw:LB_):Bool:=Lib.hasSuffix (raw1 raw) [32,45]
def raw2 (raw:LB_):LB_:=if dashR raw then (raw1 raw).take ((raw1 raw).length - 2) else raw1 raw
def body (raw:LB_):LB_:=Lib.trimS (raw2 raw) blanks
def comment (b:LB_):Bool:=Lib.hasPrefix b [47,42] && Lib.hasSuffix b [42,47] && decide (4<=b.length)
def txt (s:LB_) (n:Nat):List Tok:=if s=[] then [] else [⟨false,s,n⟩]
def actn (b:LB_) (n:Nat):List Tok:=if comment b then [] else [⟨true,b,n⟩]
def ahead (cut:Bool) (s:LB_):LB_:=if cut then Lib.trimLeftS s blanks else s
def behind (raw s:LB_):LB_:=if dashL raw then Lib.trimRightS s blanks else s
def splitM:Nat->LB_->Nat->Bool->Option (List Tok)
 | 0,_,_,_=>some []
 | n+1,s,i,cut=>
  if s=[] then some [] else
  match find2 123 s with
  | none=>some (txt (ahead cut s) (i+(s.length - (ahead cut s).length)))
  | some o=>
   match clos false (s.drop (o+2)) with
   | none=>none
   | some e=>
    (splitM n (s.drop (o+2+(e+2))) (i+(o+2+(e+2))) (dashR ((s.drop (o+2)).take e))).map
     (fun r=>txt (behind ((s.drop (o+2)).take e) (ahead cut (s.take o))) (i+(o - (ahead cut (s.take o)).length))++(actn (body ((s.drop (o+2)).take e)) (i+o)++r))
theorem find2_bound {c:UInt8}:∀ {s:LB_} {o:Nat},find2 c s=some o->o+2<=s.length
 | [],o,h=>by simp [find2] at h
 | [_],o,h=>by simp [find2] at h
 | a::b::l,o,h=>by
  rw [find2] at h
  split at h
  ·injection h with h;subst h;simp
  ·cases hf:find2 c (b::l) with
   | none=>rw [hf] at h;cases h
   | some k=>rw [hf] at h;injection h with h;subst h;have:=find2_bound hf;simp at this ⊢;omega
theorem find2_index (c:UInt8):∀ (s:LB_),Lib.index s [c,c]=match find2 c s with | some o=>(o:Int) | none=> -1
 | []=>rfl
 | [a]=>by
  rw [Lib.index,find2]
  have:Lib.index [] [c,c]= -1:=rfl
  rw [this]
  simp [List.isPrefixOf]
 | a::b::l=>by
  rw [Lib.index,find2_index c (b::l),find2]
  by_cases h:a=c/\b=c
  ·rw [if_pos h,if_pos]
   ·rfl
   ·obtain ⟨rfl,rfl⟩:=h;simp [List.isPrefixOf]
  ·rw [if_neg h,if_neg]
   ·cases hf:find2 c (b::l) with
    | none=>simp
    | some k=>
     have:((k:Int)== -1)=false:=by rw [beq_eq_false_iff_ne];omega
     simp [this]
   ·intro h2
    apply h
    simp [List.isPrefixOf] at h2
    exact ⟨h2.1.symm,h2.2.symm⟩
theorem find2_app {c:UInt8}:∀ {s:LB_} (r:LB_),find2 c s=none->(∀ x,s.getLast? =some x->x≠c)->find2 c (s++c::c::r)=some s.length
 | [],r,_,_=>by simp [find2]
 | [a],r,_,h=>by
  have ha:a≠c:=h a rfl
  simp [find2,ha]
 | a::b::l,r,h,hl=>by
  rw [find2] at h
  split at h
  ·cases h
  ·next hn=>
   have hf:find2 c (b::l)=none:=by
    cases hf:find2 c (b::l) with
    | none=>rfl
    | some k=>rw [hf] at h;cases h
   have ih:=find2_app r hf (fun x hx=>hl x (by simpa using hx))
   simp only [List.cons_append] at ih ⊢
   rw [find2,if_neg hn,ih]
   simp
theorem clos_bound:∀ (n:Nat) {q:Bool} {s:LB_} {e:Nat},s.length<=n->clos q s=some e->e+2<=s.length
 | 0,q,s,e,hn,h=>by
  have:s=[]:=List.length_eq_zero_iff.1 (by omega)
  subst this;cases q <;>simp [clos] at h
 | n+1,q,[],e,hn,h=>by cases q <;>simp [clos] at h
 | n+1,q,[a],e,hn,h=>by cases q <;>simp [clos] at h
 | n+1,q,a::b::l,e,hn,h=>by
  have hl1:(b::l).length<=n:=by simpa using hn
  have hl2:l.length<=n:=by simp at hl1;omega
  have go:∀ (q':Bool) (t:LB_) (k:Nat),t.length<=n->t.length+k=(a::b::l).length->(clos q' t).map (·+k)=some e->e+2<=(a::b::l).length:=by
   intro q' t k ht hk hm
   cases hc:clos q' t with
   | none=>rw [hc] at hm;cases hm
   | some x=>rw [hc] at hm;simp only [Option.map_some,Option.some.injEq] at hm;have:=clos_bound n ht hc;omega
  cases q
  ·rw [clos] at h
   split at h
   ·injection h with h;subst h;simp
   ·split at h
    ·exact go true _ 1 hl1 (by simp) h
    ·exact go false _ 1 hl1 (by simp) h
  ·rw [clos] at h
   split at h
   ·exact go false _ 1 hl1 (by simp) h
   ·split at h
    ·exact go true _ 2 hl2 (by simp) h
    ·exact go true _ 1 hl1 (by simp) h
theorem clos_plain:∀ {b:LB_} (r:LB_),(∀ x ∈ b,x≠34/\x≠125)->clos false (b++125::125::r)=some b.length
 | [],r,_=>by simp [clos]
 | [a],r,h=>by
  have:=h a (by simp)
  simp [clos,this.1,this.2]
 | a::b::l,r,h=>by
  have h1:=h a (by simp);have ih:=clos_plain (b:=b::l) r (fun x hx=>h x (by simp [hx]))
  simp only [List.cons_append] at ih ⊢
  rw [clos,if_neg (by rintro ⟨e, -⟩;exact h1.2 e),if_neg h1.1,ih];simp
theorem splitM_nil (n i:Nat) (cut:Bool):splitM n [] i cut=some []:=by cases n <;>simp [splitM]
theorem splitM_plain {n i:Nat} {cut:Bool} {s:LB_} (h:find2 123 s=none):splitM (n+1) s i cut=some (txt (ahead cut s) (i+(s.length - (ahead cut s).length))):=by
 by_cases hs:s=[]
 ·subst hs
  rw [splitM_nil]
  have:ahead cut []=[]:=by cases cut <;>simp [ahead,Lib.trimLeftS]
  rw [this];rfl
 ·rw [splitM,if_neg hs,h]
theorem splitM_open {n i:Nat} {cut:Bool} {s t:LB_} (h:find2 123 s=none) (hl:∀ x,s.getLast? =some x->x≠123) (hc:clos false t=none):splitM (n+1) (s++123::123::t) i cut=none:=by
 rw [splitM,if_neg (by simp),find2_app t h hl]
 have e:(s++123::123::t).drop (s.length+2)=t:=by
  rw [List.drop_append,List.drop_eq_nil_of_le (by omega)];simp
 simp only [e,hc]
theorem splitM_act {n i:Nat} {cut:Bool} {s raw r:LB_} (h:find2 123 s=none) (hl:∀ x,s.getLast? =some x->x≠123) (hc:clos false (raw++125::125::r)=some raw.length):
  splitM (n+1) (s++123::123::(raw++125::125::r)) i cut=(splitM n r (i+(s.length+2+(raw.length+2))) (dashR raw)).map (fun r=>txt (behind raw (ahead cut s)) (i+(s.length - (ahead cut s).length))++(actn (body raw) (i+s.length)++r)):=by
 rw [splitM,if_neg (by simp),find2_app _ h hl]
 have e:(s++123::123::(raw++125::125::r)).drop (s.length+2)=raw++125::125::r:=by
  rw [List.drop_append,List.drop_eq_nil_of_le (by omega)];simp
 have e1:(s++123::123::(raw++125::125::r)).take s.length=s:=by simp
 have e2:(raw++125::125::r).take raw.length=raw:=by simp
 have e3:(s++123::123::(raw++125::125::r)).drop (s.length+2+(raw.length+2))=r:=by
  rw [<-List.drop_drop,e,List.drop_append,List.drop_eq_nil_of_le (by omega)];simp
 simp only [e,hc,e1,e2,e3]
theorem splitM_fuel:∀ (n m:Nat) {s:LB_} {i:Nat} {cut:Bool},s.length < n->s.length < m->splitM n s i cut=splitM m s i cut
 | 0,m,s,i,cut,hn,hm=>by omega
 | n+1,0,s,i,cut,hn,hm=>by omega
 | n+1,m+1,s,i,cut,hn,hm=>by
  rw [splitM,splitM]
  split
  ·rfl
  ·next hs=>
   have hs0:0 < s.length:=List.length_pos_iff.2 hs
   cases hf:find2 123 s with
   | none=>rfl
   | some o=>
    cases hc:clos false (s.drop (o+2)) with
    | none=>simp only [hc]
    | some e=>
     simp only [hc]
     rw [splitM_fuel n m (by rw [List.length_drop];omega) (by rw [List.length_drop];omega)]
def Fine (s:LB_):Prop:=find2 123 s=none/\∀ x,s.getLast? =some x->x≠123
theorem fine_nil:Fine []:=⟨rfl,fun x h=>by cases h⟩
theorem ahead_false (s:LB_):ahead false s=s:=rfl
def esc1 (c:UInt8):LB_:=if c=10 then [92,110] else if c=9 then [92,116] else if c=34\/c=92 then [92,c] else [c]
def escL (s:LB_):LB_:=s.flatMap esc1
def quoteL (s:LB_):LB_:=34::(escL s++[34])
theorem clos_step {a:UInt8} {r:LB_} (h1:a≠34) (h2:a≠125) (hr:r≠[]):clos false (a::r)=(clos false r).map (·+1):=by
 cases r with
 | nil=>exact absurd rfl hr
 | cons b l=>rw [clos,if_neg (by rintro ⟨e, -⟩;exact h2 e),if_neg h1]
theorem clos_quote {r:LB_} (hr:r≠[]):clos false (34::r)=(clos true r).map (·+1):=by
 cases r with
 | nil=>exact absurd rfl hr
 | cons b l=>rw [clos,if_neg (by rintro ⟨e, -⟩;exact absurd e (by decide)),if_pos rfl]
theorem clos_unquote {r:LB_} (hr:r≠[]):clos true (34::r)=(clos false r).map (·+1):=by
 cases r with
 | nil=>exact absurd rfl hr
 | cons b l=>rw [clos,if_pos rfl]
theorem clos_in {a:UInt8} {r:LB_} (h1:a≠34) (h2:a≠92) (hr:r≠[]):clos true (a::r)=(clos true r).map (·+1):=by
 cases r with
 | nil=>exact absurd rfl hr
 | cons b l=>rw [clos,if_neg h1,if_neg h2]
theorem clos_back {a:UInt8} {r:LB_}:clos true (92::a::r)=(clos true r).map (·+2):=by
 rw [clos,if_neg (by decide),if_pos rfl]
theorem map_map (o:Option Nat) (a b:Nat):(o.map (·+a)).map (·+b)=o.map (·+(a+b)):=by
 cases o <;>simp [Nat.add_assoc]
theorem clos_skip:∀ {b r:LB_},(∀ x ∈ b,x≠34/\x≠125)->r≠[]->clos false (b++r)=(clos false r).map (·+b.length)
 | [],r,h,hr=>by simp
 | a::b,r,h,hr=>by
  rw [List.cons_append,clos_step (h a (by simp)).1 (h a (by simp)).2 (by simp [hr]),clos_skip (fun x hx=>h x (by simp [hx])) hr,map_map]
  rfl
theorem clos_esc:∀ (s:LB_) {r:LB_},r≠[]->clos true (escL s++r)=(clos true r).map (·+(escL s).length)
 | [],r,hr=>by simp [escL]
 | c::s,r,hr=>by
  have ih:=clos_esc s hr
  have e:escL (c::s)=esc1 c++escL s:=by simp [escL]
  have hne:escL s++r≠[]:=by simp [hr]
  rw [e,List.append_assoc]
  by_cases h1:c=10
  ·rw [esc1,if_pos h1]
   show clos true (92::110::(escL s++r))=_
   rw [clos_back,ih,map_map];have e2:([92,110]++escL s).length=(escL s).length+2:=by simp
   rw [e2]
  ·by_cases h2:c=9
   ·rw [esc1,if_neg h1,if_pos h2]
    show clos true (92::116::(escL s++r))=_
    rw [clos_back,ih,map_map];have e2:([92,116]++escL s).length=(escL s).length+2:=by simp
    rw [e2]
   ·by_cases h3:c=34\/c=92
    ·rw [esc1,if_neg h1,if_neg h2,if_pos h3]
     show clos true (92::c::(escL s++r))=_
     rw [clos_back,ih,map_map];have e2:([92,c]++escL s).length=(escL s).length+2:=by simp
     rw [e2]
    ·rw [esc1,if_neg h1,if_neg h2,if_neg h3]
     show clos true (c::(escL s++r))=_
     rw [clos_in (fun e=>h3 (.inl e)) (fun e=>h3 (.inr e)) hne,ih,map_map];have e2:([c]++escL s).length=(escL s).length+1:=by simp
     rw [e2]
def digitB (c:UInt8):Bool:=decide (48<=c.toNat/\c.toNat<=57)
def valFrom (acc:Nat) (l:LB_):Nat:=l.foldl (fun a c=>a*10+(c.toNat - 48)) acc
theorem valFrom_nil (acc:Nat):valFrom acc []=acc:=rfl
theorem valFrom_cons (acc:Nat) (c:UInt8) (r:LB_):valFrom acc (c::r)=valFrom (acc*10+(c.toNat - 48)) r:=by unfold valFrom;rw [List.foldl_cons]
theorem valFrom_le:∀ (l:LB_) (acc:Nat),acc<=valFrom acc l
 | [],acc=>Nat.le_refl _
 | c::r,acc=>by
  have h:=valFrom_le r (acc*10+(c.toNat - 48));rw [valFrom_cons]
  generalize valFrom (acc*10+(c.toNat - 48)) r=x at h ⊢
  omega
theorem valFrom_app:∀ (l m:LB_) (acc:Nat),valFrom acc (l++m)=valFrom (valFrom acc l) m
 | [],m,acc=>by rw [List.nil_append,valFrom_nil]
 | c::r,m,acc=>by rw [List.cons_append,valFrom_cons,valFrom_cons,valFrom_app r m]
theorem parseM_digits (M:Nat) (hM:M=2 ^ 64 - 1):∀ (l:LB_) (acc:Nat),acc<=M->l.all digitB=true->Lib.parseUintM M acc l=if valFrom acc l<=M then .ok (valFrom acc l) else .range
 | [],acc,ha,_=>by simp [Lib.parseUintM,valFrom_nil,ha]
 | c::r,acc,ha,hl=>by
  rw [List.all_cons,Bool.and_eq_true] at hl
  have hd:48<=c.toNat/\c.toNat<=57:=by simpa [digitB] using hl.1
  have hv:=valFrom_le r (acc*10+(c.toNat - 48));rw [Lib.parseUintM,if_pos hd,valFrom_cons]
  by_cases h1:1844674407370955162<=acc
  ·rw [if_pos h1,if_neg (by omega)]
  ·rw [if_neg h1]
   by_cases h2:M < acc*10+(c.toNat - 48)
   ·rw [if_pos h2,if_neg (by omega)]
   ·rw [if_neg h2]
    exact parseM_digits M hM r _ (by omega) hl.2
def minus (l:LB_):Bool:=l.head? ==some 45
def mag (l:LB_):LB_:=if minus l then l.tail else l
def numL (l:LB_):Bool:=(mag l).all digitB && !(mag l).isEmpty
def intL (l:LB_):Option Int:=
 if minus l then (if valFrom 0 (mag l)<=9223372036854775808 then some (-(valFrom 0 (mag l):Int)) else none)
 else (if valFrom 0 (mag l) < 9223372036854775808 then some (valFrom 0 (mag l):Int) else none)
theorem parse_num {l:LB_} (h:numL l=true):Lib.parseIntB 64 l=match intL l with | some v=> .ok v | none=> .range:=by
 unfold numL at h;rw [Bool.and_eq_true] at h;obtain ⟨h1,h2⟩:=h
 have h3:mag l≠[]:=by intro e;rw [e] at h2;simp at h2
 have key:Lib.parseUintB 64 (mag l)=if valFrom 0 (mag l)<=2 ^ 64 - 1 then .ok (valFrom 0 (mag l)) else .range:=by
  rw [Lib.parseUintB,if_neg h3]
  exact parseM_digits _ rfl _ 0 (by omega) h1
 match l,h1,h3,key with
 | [],_,h3,_=>exact absurd rfl h3
 | c::r,h1,h3,key=>
  by_cases hc:c=45
  ·subst hc
   have hm:minus (45::r)=true:=by simp [minus]
   have hg:mag (45::r)=r:=by simp [mag,hm]
   rw [hg] at key
   have e:Lib.parseIntB 64 (45::r)=match Lib.parseUintB 64 r with | .syntax=> .syntax | .range=> .range | .ok u=>if ¬ True/\2 ^ 63<=u then .range else if True/\2 ^ 63 < u then .range else .ok (-(u:Int)):=by
    unfold Lib.parseIntB
    simp
    cases Lib.parseUintB 64 r <;>rfl
   rw [e,key,intL,hm,hg]
   by_cases hv:valFrom 0 r<=9223372036854775808
   ·rw [if_pos (by omega)]
    simp [hv]
   ·by_cases h4:valFrom 0 r<=2 ^ 64 - 1
    ·rw [if_pos h4];simp [hv]
    ·rw [if_neg h4];simp [hv]
  ·have hm:minus (c::r)=false:=by simp [minus,hc]
   have hg:mag (c::r)=c::r:=by simp [mag,hm]
   rw [hg] at key h1
   have hd:48<=c.toNat/\c.toNat<=57:=by
    rw [List.all_cons,Bool.and_eq_true] at h1
    simpa [digitB] using h1.1
   have n45:¬ c.toNat=45:=by omega
   have n43:¬ (c.toNat=43\/c.toNat=45):=by omega
   have e:Lib.parseIntB 64 (c::r)=match Lib.parseUintB 64 (c::r) with | .syntax=> .syntax | .range=> .range | .ok u=>if 2 ^ 63<=u then .range else .ok (u:Int):=by
    have n43':¬ c.toNat=43:=by omega
    unfold Lib.parseIntB
    simp [n45,n43']
    cases Lib.parseUintB 64 (c::r) <;>rfl
   rw [e,key,intL,hm,hg]
   by_cases hv:valFrom 0 (c::r) < 9223372036854775808
   ·rw [if_pos (by omega)]
    have:¬ 2 ^ 63<=valFrom 0 (c::r):=by omega
    simp [hv,this]
   ·by_cases h4:valFrom 0 (c::r)<=2 ^ 64 - 1
    ·rw [if_pos h4]
     have:2 ^ 63<=valFrom 0 (c::r):=by omega
     simp [hv,this]
    ·rw [if_neg h4];simp [hv]
theorem dec_digits:∀ (n u:Nat),u<=n->(Lib.decDigits u).all digitB=true
 | n,u,h=>by
  rw [Lib.decDigits]
  split
  ·next h10=>
   have e:(UInt8.ofNat (48+u)).toNat=48+u:=by rw [UInt8.toNat_ofNat'];omega
   simp [digitB];omega
  ·next h10=>
   have e:(UInt8.ofNat (48+u % 10)).toNat=48+u % 10:=by rw [UInt8.toNat_ofNat'];omega
   match n with
   | 0=>omega
   | n+1=>
    rw [List.all_append,dec_digits n (u / 10) (by omega)]
    simp [digitB];omega
theorem dec_val:∀ (n u:Nat),u<=n->valFrom 0 (Lib.decDigits u)=u
 | n,u,h=>by
  rw [Lib.decDigits]
  split
  ·next h10=>
   have e:(UInt8.ofNat (48+u)).toNat=48+u:=by rw [UInt8.toNat_ofNat'];omega
   rw [valFrom_cons,valFrom_nil,e];omega
  ·next h10=>
   have e:(UInt8.ofNat (48+u % 10)).toNat=48+u % 10:=by rw [UInt8.toNat_ofNat'];omega
   match n with
   | 0=>omega
   | n+1=>
    rw [valFrom_app,dec_val n (u / 10) (by omega)];rw [valFrom_cons,valFrom_nil,e];omega
theorem dec_ne (u:Nat):Lib.decDigits u≠[]:=by
 rw [Lib.decDigits];split <;>simp
theorem dec_head (u:Nat):∃ c r,Lib.decDigits u=c::r/\digitB c=true:=by
 have h:=dec_digits u u (Nat.le_refl _)
 cases hd:Lib.decDigits u with
 | nil=>exact absurd hd (dec_ne u)
 | cons c r=>rw [hd,List.all_cons,Bool.and_eq_true] at h;exact ⟨c,r,rfl,h.1⟩
theorem digit_ne {c:UInt8} (h:digitB c=true):c≠45:=by
 rintro rfl;revert h;decide
theorem num_pos {l:LB_} (h:l.all digitB=true) (hn:l≠[]):minus l=false/\mag l=l/\numL l=true:=by
 have hm:minus l=false:=by
  cases l with
  | nil=>exact absurd rfl hn
  | cons c r=>
   rw [List.all_cons,Bool.and_eq_true] at h
   have:=digit_ne h.1
   simp [minus,this]
 have hg:mag l=l:=by simp [mag,hm]
 refine ⟨hm,hg,?_⟩
 rw [numL,hg,h];simpa using hn
theorem num_neg {l:LB_} (h:l.all digitB=true) (hn:l≠[]):minus (45::l)=true/\mag (45::l)=l/\numL (45::l)=true:=by
 have hm:minus (45::l)=true:=by simp [minus]
 have hg:mag (45::l)=l:=by simp [mag,hm]
 refine ⟨hm,hg,?_⟩
 rw [numL,hg,h];simpa using hn
theorem itoa_num (n:Int) (h1: -9223372036854775808<=n) (h2:n < 9223372036854775808):numL (Lib.itoa n)=true/\intL (Lib.itoa n)=some n:=by
 unfold Lib.itoa
 split
 ·next h=>
  obtain ⟨a,b,c⟩:=num_neg (dec_digits _ _ (Nat.le_refl n.natAbs)) (dec_ne _)
  refine ⟨c,?_⟩
  rw [intL,a,b,dec_val _ _ (Nat.le_refl _)]
  simp only [if_true]
  rw [if_pos (by omega)]
  congr 1;omega
 ·next h=>
  obtain ⟨a,b,c⟩:=num_pos (dec_digits _ _ (Nat.le_refl n.toNat)) (dec_ne _)
  refine ⟨c,?_⟩
  rw [intL,a,b,dec_val _ _ (Nat.le_refl _)]
  simp only [Bool.false_eq_true,if_false]
  rw [if_pos (by omega)]
  congr 1;omega
def letterB (c:UInt8):Bool:=decide ((97<=c.toNat/\c.toNat<=122)\/(65<=c.toNat/\c.toNat<=90))
def moreB (c:UInt8):Bool:=digitB c || c==95 || c==45 || c==46 || c==47
def nullW:LB_:=[110,117,108,108]
def trueW:LB_:=[116,114,117,101]
def falseW:LB_:=[102,97,108,115,101]
def okL:LB_->Bool
 | []=>true
 | c::r=>letterB c && r.all (fun c=>letterB c || moreB c)
def bareL (l:LB_):Bool:=okL l && !(l==[] || l==nullW || l==trueW || l==falseW)
def dblL:LB_->Option (LB_ × LB_)
 | []=>none
 | 34::r=>some ([],r)
 | [92]=>none
 | 92::c::r=>if c=110 then (dblL r).map (fun p=>(10::p.1,p.2)) else if c=116 then (dblL r).map (fun p=>(9::p.1,p.2)) else if c=34\/c=92 then (dblL r).map (fun p=>(c::p.1,p.2)) else none
 | 10::_=>none
 | 9::_=>none
 | c::r=>(dblL r).map (fun p=>(c::p.1,p.2))
def sglL:LB_->Option (LB_ × LB_)
 | []=>none
 | 39::39::r=>(sglL r).map (fun p=>(39::p.1,p.2))
 | 39::r=>some ([],r)
 | c::r=>(sglL r).map (fun p=>(c::p.1,p.2))
def sesc1 (c:UInt8):LB_:=if c=39 then [39,39] else [c]
def sescL (s:LB_):LB_:=s.flatMap sesc1
def unqL:LB_->Option (LB_ × LB_)
 | 34::r=>dblL r
 | 39::r=>sglL r
 | _=>none
theorem dbl_esc:∀ (s m:LB_),dblL (escL s++34::m)=some (s,m)
 | [],m=>by simp [escL,dblL]
 | c::s,m=>by
  have ih:=dbl_esc s m
  have e:escL (c::s)=esc1 c++escL s:=by simp [escL]
  rw [e,List.append_assoc]
  by_cases h1:c=10
  ·rw [esc1,if_pos h1];show dblL (92::110::(escL s++34::m))=_;rw [dblL,if_pos rfl,ih,h1];rfl
  ·by_cases h2:c=9
   ·rw [esc1,if_neg h1,if_pos h2];show dblL (92::116::(escL s++34::m))=_;rw [dblL,if_neg (by decide),if_pos rfl,ih,h2];rfl
   ·by_cases h3:c=34\/c=92
    ·rw [esc1,if_neg h1,if_neg h2,if_pos h3];show dblL (92::c::(escL s++34::m))=_
     rw [dblL,if_neg (by rintro rfl;simp at h3),if_neg (by rintro rfl;simp at h3),if_pos h3,ih];rfl
    ·rw [esc1,if_neg h1,if_neg h2,if_neg h3];show dblL (c::(escL s++34::m))=_
     rw [not_or] at h3;rw [dblL,ih]
     ·rfl
     all_goals simp_all
theorem dbl_back:∀ (n:Nat) (l c d:LB_),l.length<=n->dblL l=some (c,d)->l=escL c++34::d:=by
 intro n
 induction n with
 | zero=>
  intro l c d hn h
  have:l=[]:=List.length_eq_zero_iff.1 (by omega)
  subst this;rw [dblL] at h;cases h
 | succ n ih=>
  intro l c d hn h
  have cons:∀ {a:UInt8} {pre r:LB_},r.length<=n->esc1 a=pre->(dblL r).map (fun p=>(a::p.1,p.2))=some (c,d)->pre++r=escL c++34::d:=by
   intro a pre r hr he hm
   cases hd:dblL r with
   | none=>rw [hd] at hm;cases hm
   | some p=>
    rw [hd] at hm
    simp only [Option.map_some,Option.some.injEq,Prod.mk.injEq] at hm
    obtain ⟨rfl,rfl⟩:=hm;rw [ih r p.1 p.2 hr hd,<-he]
    simp [escL]
  unfold dblL at h
  split at h
  ·cases h
  ·simp only [Option.some.injEq,Prod.mk.injEq] at h
   obtain ⟨rfl,rfl⟩:=h
   simp [escL]
  ·cases h
  ·next a r=>
   simp only [List.length_cons] at hn
   split at h
   ·next e=>subst e;exact cons (by omega) rfl h
   ·split at h
    ·next e=>subst e;exact cons (by omega) rfl h
    ·split at h
     ·next e1 e2 e3=>
      refine cons (pre:=[92,a]) (by omega) ?_ h
      rw [esc1,if_neg (by rintro rfl;simp at e3),if_neg (by rintro rfl;simp at e3),if_pos e3]
     ·cases h
  ·cases h
  ·cases h
  ·next a r h34 h92 h92' h10 h9=>
   simp only [List.length_cons] at hn
   refine cons (pre:=[a]) (by omega) ?_ h
   have a34:a≠34:=fun e=>h34 e
   have a10:a≠10:=fun e=>h10 e
   have a9:a≠9:=fun e=>h9 e
   have a92:a≠92:=fun e=>by
    cases r with
    | nil=>exact h92 e rfl
    | cons x r=>exact h92' x r e rfl
   rw [esc1,if_neg a10,if_neg a9,if_neg (by rintro (h | h) <;>contradiction)]
theorem sgl_back:∀ (n:Nat) (l c d:LB_),l.length<=n->sglL l=some (c,d)->l=sescL c++39::d:=by
 intro n
 induction n with
 | zero=>
  intro l c d hn h
  have:l=[]:=List.length_eq_zero_iff.1 (by omega)
  subst this;rw [sglL] at h;cases h
 | succ n ih=>
  intro l c d hn h
  have cons:∀ {a:UInt8} {pre r:LB_},r.length<=n->sesc1 a=pre->(sglL r).map (fun p=>(a::p.1,p.2))=some (c,d)->pre++r=sescL c++39::d:=by
   intro a pre r hr he hm
   cases hd:sglL r with
   | none=>rw [hd] at hm;cases hm
   | some p=>
    rw [hd] at hm
    simp only [Option.map_some,Option.some.injEq,Prod.mk.injEq] at hm
    obtain ⟨rfl,rfl⟩:=hm;rw [ih r p.1 p.2 hr hd,<-he]
    simp [sescL]
  unfold sglL at h
  split at h
  ·cases h
  ·next r=>simp only [List.length_cons] at hn;exact cons (by omega) rfl h
  ·simp only [Option.some.injEq,Prod.mk.injEq] at h
   obtain ⟨rfl,rfl⟩:=h
   simp [sescL]
  ·next a r h39 h39'=>
   simp only [List.length_cons] at hn
   refine cons (pre:=[a]) (by omega) ?_ h
   have a39:a≠39:=fun e=>h39' e
   rw [sesc1,if_neg a39]
end Go.Proofs.YtnblmhfgmehnnaaGreatDoor
namespace Go.Proofs.YtnblmhfgmehnnaaGreatDoor
open Go.RowKit
inductive T where
 | mk (kind:Int) (b:Bool) (n:Int) (s:ByteArray) (l:List T) (m:List (ByteArray × T))
theorem T.ind {C:T->Prop} (h:∀ k b n s l m,(∀ x ∈ l,C x)->(∀ p ∈ m,C p.2)->C (.mk k b n s l m)):∀ t,C t:=by
 intro t
 refine T.rec (motive_1:=C) (motive_2:=fun l=>∀ x ∈ l,C x) (motive_3:=fun m=>∀ p ∈ m,C p.2) (motive_4:=fun p=>C p.2) ?_ ?_ ?_ ?_ ?_ ?_ t
 ·exact fun k b n s l m hl hm=>h k b n s l m hl hm
 ·simp
 ·intro a l ha hl x hx
  rcases List.mem_cons.1 hx with rfl | hx
  ·exact ha
  ·exact hl x hx
 ·simp
 ·intro a l ha hl x hx
  rcases List.mem_cons.1 hx with rfl | hx
  ·exact ha
  ·exact hl x hx
 ·exact fun k t ht=>ht
def T.kind:T->Int | .mk k _ _ _ _ _=>k
def T.bool:T->Bool | .mk _ b _ _ _ _=>b
def T.int:T->Int | .mk _ _ n _ _ _=>n
def T.str:T->ByteArray | .mk _ _ _ s _ _=>s
def T.list:T->List T | .mk _ _ _ _ l _=>l
def T.map:T->List (ByteArray × T) | .mk _ _ _ _ _ m=>m
theorem T.ind' {C:T->Prop} (h:∀ t:T,(∀ x ∈ t.list,C x)->(∀ p ∈ t.map,C p.2)->C t):∀ t,C t:=
 T.ind fun k b n s l m hl hm=>h (.mk k b n s l m) hl hm
def T.zero:T:=.mk 0 false 0 ⟨#[]⟩ [] []
theorem agg_list {cs:List Value} {a:Array Value} (h:Value.agg cs.toArray=.agg a):cs=a.toList:=by
 injection h with h
 rw [<-h]
inductive RepT (w:World) (S:Nat->Prop):Value->T->Prop
 | mk (k:Int) (b:Bool) (n:Int) (s:ByteArray) (l:List T) (m:List (ByteArray × T)) (la:OA_) (lc:Nat) (ma:OA_) (mc:Nat)
   (C:Nat->List Value) (D:Nat->List Value)
   (hk:i64ok k) (hn:i64ok n) (hs:s.size<=140737488351232) (hl:l.length*88<=140737488355328) (hm:m.length*104<=140737488355328) (hlc:l.length<=lc) (hmc:m.length<=mc) (hlx:lc<=maxLen) (hmx:mc<=maxLen)
   (hla:∀ i,i < l.length->∃ b o,la=some ⟨b,o,none⟩/\S b/\cellsAt w b (o+i*6) (C i))
   (hlr:∀ i (h:i < l.length),RepT w S (.agg (C i).toArray) l[i])
   (hma:∀ i (h:i < m.length),∃ b o,ma=some ⟨b,o,none⟩/\S b/\m[i].1.size<=140737488351232/\cellsAt w b (o+i*7) (.string m[i].1::D i))
   (hmr:∀ i (h:i < m.length),RepT w S (.agg (D i).toArray) m[i].2):
   RepT w S (.agg #[.int .i64 k,.bool b,.int .i64 n,.string s,.slice la l.length lc,.slice ma m.length mc]) (.mk k b n s l m)
def RepL (w:World) (S:Nat->Prop) (a:OA_) (l:List T):Prop:=
 ∀ i (h:i < l.length),∃ b o cs,a=some ⟨b,o,none⟩/\S b/\cellsAt w b (o+i*6) cs/\RepT w S (.agg cs.toArray) l[i]
def RepM (w:World) (S:Nat->Prop) (a:OA_) (m:List (ByteArray × T)):Prop:=
 ∀ i (h:i < m.length),∃ b o cs,a=some ⟨b,o,none⟩/\S b/\m[i].1.size<=140737488351232/\cellsAt w b (o+i*7) (.string m[i].1::cs)/\RepT w S (.agg cs.toArray) m[i].2
def RepParts (w:World) (S:Nat->Prop) (la:OA_) (lc:Nat) (ma:OA_) (mc:Nat) (t:T):Prop:=
 i64ok t.kind/\i64ok t.int/\t.str.size<=140737488351232/\t.list.length*88<=140737488355328/\t.map.length*104<=140737488355328/\t.list.length<=lc/\t.map.length<=mc/\lc<=maxLen/\mc<=maxLen/\
  RepL w S la t.list/\RepM w S ma t.map
section
variable {w w':World} {S S':Nat->Prop} {v:Value} {t:T}
theorem RepT.inv (h:RepT w S v t):∃ la lc ma mc,v=.agg #[.int .i64 t.kind,.bool t.bool,.int .i64 t.int,.string t.str,.slice la t.list.length lc,.slice ma t.map.length mc]/\RepParts w S la lc ma mc t:=by
 cases h with
 | mk k b n s l m la lc ma mc C D hk hn hs hl hm hlc hmc hlx hmx hla hlr hma hmr=>
  refine ⟨la,lc,ma,mc,rfl,hk,hn,hs,hl,hm,hlc,hmc,hlx,hmx,fun i hi=>?_,fun i hi=>?_⟩
  ·obtain ⟨b,o,e,hb,hc⟩:=hla i hi
   exact ⟨b,o,C i,e,hb,hc,hlr i hi⟩
  ·obtain ⟨b,o,e,hb,hz,hc⟩:=hma i hi
   exact ⟨b,o,D i,e,hb,hz,hc,hmr i hi⟩
theorem RepT.of {la:OA_} {lc:Nat} {ma:OA_} {mc:Nat} (h:RepParts w S la lc ma mc t):
  RepT w S (.agg #[.int .i64 t.kind,.bool t.bool,.int .i64 t.int,.string t.str,.slice la t.list.length lc,.slice ma t.map.length mc]) t:=by
 obtain ⟨hk,hn,hs,hl,hm,hlc,hmc,hlx,hmx,hL,hM⟩:=h
 cases t with
 | mk k b n s l m=>
  have hL':∀ i,∃ cs,∀ h:i < l.length,∃ b o,la=some ⟨b,o,none⟩/\S b/\cellsAt w b (o+i*6) cs/\RepT w S (.agg cs.toArray) l[i]:=by
   intro i
   by_cases h:i < l.length
   ·obtain ⟨b,o,cs,r⟩:=hL i h
    exact ⟨cs,fun _=>⟨b,o,r⟩⟩
   ·exact ⟨[],fun h'=>absurd h' h⟩
  have hM':∀ i,∃ cs,∀ h:i < m.length,∃ b o,ma=some ⟨b,o,none⟩/\S b/\m[i].1.size<=140737488351232/\cellsAt w b (o+i*7) (.string m[i].1::cs)/\RepT w S (.agg cs.toArray) m[i].2:=by
   intro i
   by_cases h:i < m.length
   ·obtain ⟨b,o,cs,r⟩:=hM i h
    exact ⟨cs,fun _=>⟨b,o,r⟩⟩
   ·exact ⟨[],fun h'=>absurd h' h⟩
  refine .mk k b n s l m la lc ma mc (fun i=>Classical.choose (hL' i)) (fun i=>Classical.choose (hM' i)) hk hn hs hl hm hlc hmc hlx hmx (fun i h=>?_) (fun i h=>?_) (fun i h=>?_) (fun i h=>?_)
  ·obtain ⟨b,o,e,hb,hc,_⟩:=Classical.choose_spec (hL' i) h
   exact ⟨b,o,e,hb,hc⟩
  ·obtain ⟨_,_,_,_,_,hr⟩:=Classical.choose_spec (hL' i) h
   exact hr
  ·obtain ⟨b,o,e,hb,hz,hc,_⟩:=Classical.choose_spec (hM' i) h
   exact ⟨b,o,e,hb,hz,hc⟩
  ·obtain ⟨_,_,_,_,_,_,hr⟩:=Classical.choose_spec (hM' i) h
   exact hr
theorem RepT.mono (h:RepT w S v t) (hS:∀ b,S b->b < w.heap.size->S' b) (hw:∀ b o,S b->b < w.heap.size->w'.cell? ⟨b,o,none⟩=w.cell? ⟨b,o,none⟩):RepT w' S' v t:=by
 induction h with
 | mk k b n s l m la lc ma mc C D hk hn hs hl hm hlc hmc hlx hmx hla hlr hma hmr ihl ihm=>
  refine .mk k b n s l m la lc ma mc C D hk hn hs hl hm hlc hmc hlx hmx ?_ ihl ?_ ihm
  ·intro i hi
   obtain ⟨b,o,e,hb,hc⟩:=hla i hi;have hr:=hlr i hi
   have hlt:b < w.heap.size:=by
    generalize C i=cs at hc hr
    obtain ⟨_,_,_,_,hv,_⟩:=hr.inv
    have:=agg_list hv
    subst this
    exact hc.lt
   exact ⟨b,o,e,hS b hb hlt,hc.keep fun i=>hw _ _ hb hlt⟩
  ·intro i hi
   obtain ⟨b,o,e,hb,hz,hc⟩:=hma i hi;have hlt:=hc.lt
   exact ⟨b,o,e,hS b hb hlt,hz,hc.keep fun i=>hw _ _ hb hlt⟩
theorem RepT.keep (h:RepT w S v t) (hb:Below w.heap.size w w'):RepT w' S v t:=
 h.mono (fun _ h _=>h) fun _ _ _ hlt=>hb.cell hlt
theorem RepL.mono {a:OA_} {l:List T} (h:RepL w S a l) (hS:∀ b,S b->b < w.heap.size->S' b) (hw:∀ b o,S b->b < w.heap.size->w'.cell? ⟨b,o,none⟩=w.cell? ⟨b,o,none⟩):RepL w' S' a l:=by
 intro i hi;obtain ⟨b,o,cs,e,hb,hc,hr⟩:=h i hi
 have hlt:b < w.heap.size:=by
  obtain ⟨_,_,_,_,hv,_⟩:=hr.inv
  have:=agg_list hv
  subst this
  exact hc.lt
 exact ⟨b,o,cs,e,hS b hb hlt,hc.keep fun i=>hw _ _ hb hlt,hr.mono hS hw⟩
theorem RepM.mono {a:OA_} {m:List (ByteArray × T)} (h:RepM w S a m) (hS:∀ b,S b->b < w.heap.size->S' b) (hw:∀ b o,S b->b < w.heap.size->w'.cell? ⟨b,o,none⟩=w.cell? ⟨b,o,none⟩):RepM w' S' a m:=by
 intro i hi;obtain ⟨b,o,cs,e,hb,hz,hc,hr⟩:=h i hi;have hlt:=hc.lt
 exact ⟨b,o,cs,e,hS b hb hlt,hz,hc.keep fun i=>hw _ _ hb hlt,hr.mono hS hw⟩
theorem RepL.keep {a:OA_} {l:List T} (h:RepL w S a l) (hb:Below w.heap.size w w'):RepL w' S a l:=h.mono (fun _ h _=>h) fun _ _ _ hlt=>hb.cell hlt
theorem RepM.keep {a:OA_} {m:List (ByteArray × T)} (h:RepM w S a m) (hb:Below w.heap.size w w'):RepM w' S a m:=h.mono (fun _ h _=>h) fun _ _ _ hlt=>hb.cell hlt
theorem RepL.at_ {a:OA_} {l:List T} (h:RepL w S a l) {i:Nat} (hi:i < l.length):∃ b o la lc ma mc,a=some ⟨b,o,none⟩/\S b/\b < w.heap.size/\
  (w.cell? ⟨b,o+i*6,none⟩=some (.int .i64 l[i].kind)/\w.cell? ⟨b,o+i*6+1,none⟩=some (.bool l[i].bool)/\w.cell? ⟨b,o+i*6+2,none⟩=some (.int .i64 l[i].int)/\w.cell? ⟨b,o+i*6+3,none⟩=some (.string l[i].str)/\
   w.cell? ⟨b,o+i*6+4,none⟩=some (.slice la l[i].list.length lc)/\w.cell? ⟨b,o+i*6+5,none⟩=some (.slice ma l[i].map.length mc))/\
  RepT w S (.agg #[.int .i64 l[i].kind,.bool l[i].bool,.int .i64 l[i].int,.string l[i].str,.slice la l[i].list.length lc,.slice ma l[i].map.length mc]) l[i]:=by
 obtain ⟨b,o,cs,e,hb,hc,hr⟩:=h i hi;obtain ⟨la,lc,ma,mc,hv,hp⟩:=hr.inv
 have:=agg_list hv
 subst this
 exact ⟨b,o,la,lc,ma,mc,e,hb,hc.lt,⟨hc 0 _ rfl,hc 1 _ rfl,hc 2 _ rfl,hc 3 _ rfl,hc 4 _ rfl,hc 5 _ rfl⟩,hr⟩
theorem RepM.at_ {a:OA_} {m:List (ByteArray × T)} (h:RepM w S a m) {i:Nat} (hi:i < m.length):∃ b o la lc ma mc,a=some ⟨b,o,none⟩/\S b/\b < w.heap.size/\m[i].1.size<=140737488351232/\
  (w.cell? ⟨b,o+i*7,none⟩=some (.string m[i].1)/\w.cell? ⟨b,o+i*7+1,none⟩=some (.int .i64 m[i].2.kind)/\w.cell? ⟨b,o+i*7+2,none⟩=some (.bool m[i].2.bool)/\w.cell? ⟨b,o+i*7+3,none⟩=some (.int .i64 m[i].2.int)/\
   w.cell? ⟨b,o+i*7+4,none⟩=some (.string m[i].2.str)/\w.cell? ⟨b,o+i*7+5,none⟩=some (.slice la m[i].2.list.length lc)/\w.cell? ⟨b,o+i*7+6,none⟩=some (.slice ma m[i].2.map.length mc))/\
  RepT w S (.agg #[.int .i64 m[i].2.kind,.bool m[i].2.bool,.int .i64 m[i].2.int,.string m[i].2.str,.slice la m[i].2.list.length lc,.slice ma m[i].2.map.length mc]) m[i].2:=by
 obtain ⟨b,o,cs,e,hb,hz,hc,hr⟩:=h i hi;obtain ⟨la,lc,ma,mc,hv,hp⟩:=hr.inv
 have:=agg_list hv
 subst this
 exact ⟨b,o,la,lc,ma,mc,e,hb,hc.lt,hz,⟨hc 0 _ rfl,hc 1 _ rfl,hc 2 _ rfl,hc 3 _ rfl,hc 4 _ rfl,hc 5 _ rfl,hc 6 _ rfl⟩,hr⟩
end
theorem ba_ext {a b:ByteArray} (h:a.toList=b.toList):a=b:=by
 rw [ByteArray.toList_eq,ByteArray.toList_eq] at h;obtain ⟨⟨a⟩⟩:=a;obtain ⟨⟨b⟩⟩:=b
 simp at h;subst h;rfl
theorem keq_iff (a b:ByteArray):(a.toList==b.toList)=decide (a=b):=by
 by_cases h:a=b
 ·subst h;simp
 ·have:a.toList≠b.toList:=fun e=>h (ba_ext e)
  simp [h,this]
end Go.Proofs.YtnblmhfgmehnnaaGreatDoor
namespace Go.Proofs.YtnblmhfgmehnnaaGreatDoor
def tN (n:Int):T:=.mk 2 false n ⟨#[]⟩ [] []
def tS (s:ByteArray):T:=.mk 3 false 0 s [] []
def tB (b:Bool):T:=.mk 1 b 0 ⟨#[]⟩ [] []
def nullish (l:LB_):Prop:=l=[]\/l=[126]\/l=nullW
instance (l:LB_):Decidable (nullish l):=by unfold nullish;infer_instance
def parseT (s:ByteArray):Option T:=
 if nullish s.data.toList then some T.zero
 else if s.data.toList=trueW then some (tB true)
 else if s.data.toList=falseW then some (tB false)
 else if numL s.data.toList then (intL s.data.toList).map tN
 else some (tS s)
def printL (t:T):LB_:=
 if t.kind=1 then (if t.bool then trueW else falseW)
 else if t.kind=2 then Lib.itoa t.int
 else if t.kind=3 then (if bareL t.str.data.toList then t.str.data.toList else quoteL t.str.data.toList)
 else if t.kind=4 then [91,93]
 else if t.kind=5 then [123,125]
 else nullW
theorem num_special:numL []=false/\numL [126]=false/\numL nullW=false/\numL trueW=false/\numL falseW=false:=by decide
theorem num_plain {l:LB_} (h:numL l=true):¬ nullish l/\l≠trueW/\l≠falseW:=by
 obtain ⟨a,b,c,d,e⟩:=num_special
 refine ⟨?_,?_,?_⟩
 ·rintro (rfl | rfl | rfl)
  ·rw [a] at h;cases h
  ·rw [b] at h;cases h
  ·rw [c] at h;cases h
 ·rintro rfl;rw [d] at h;cases h
 ·rintro rfl;rw [e] at h;cases h
theorem parse_int {s:ByteArray} {n:Int} (h:numL s.data.toList=true) (hn:intL s.data.toList=some n):parseT s=some (tN n):=by
 obtain ⟨a,b,c⟩:=num_plain h;rw [parseT,if_neg a,if_neg b,if_neg c,if_pos h,hn];rfl
theorem unq_quote (s m:LB_):unqL (quoteL s++m)=some (s,m):=by
 have e:quoteL s++m=34::(escL s++34::m):=by simp [quoteL]
 rw [e,unqL,dbl_esc]
abbrev bs (l:LB_):ByteArray:=⟨l.toArray⟩
theorem bs_list (l:LB_):(bs l).data.toList=l:=rfl
theorem bs_of (b:ByteArray):bs b.data.toList=b:=rfl
theorem bs_size (l:LB_):(bs l).size=l.length:=by simp [ByteArray.size]
inductive Ex where
 | mk (kind:Int) (v:T) (name:ByteArray) (steps:List ByteArray) (args:List Ex)
def Ex.kind:Ex->Int | .mk k _ _ _ _=>k
def Ex.val:Ex->T | .mk _ v _ _ _=>v
def Ex.name:Ex->ByteArray | .mk _ _ n _ _=>n
def Ex.steps:Ex->List ByteArray | .mk _ _ _ s _=>s
def Ex.args:Ex->List Ex | .mk _ _ _ _ a=>a
def Ex.zero:Ex:=.mk 0 T.zero ⟨#[]⟩ [] []
def Ex.lit (t:T):Ex:=.mk 0 t ⟨#[]⟩ [] []
def Ex.call (n:ByteArray) (l:List Ex):Ex:=.mk 3 T.zero n [] l
def Ex.push (y x:Ex):Ex:=.mk y.kind y.val y.name y.steps (y.args++[x])
inductive Nd where
 | mk (kind:Int) (text:ByteArray) (x:Ex) (key name:ByteArray) (body els:List Nd)
def Nd.kind:Nd->Int | .mk k _ _ _ _ _ _=>k
def Nd.text:Nd->ByteArray | .mk _ t _ _ _ _ _=>t
def Nd.x:Nd->Ex | .mk _ _ x _ _ _ _=>x
def Nd.key:Nd->ByteArray | .mk _ _ _ k _ _ _=>k
def Nd.name:Nd->ByteArray | .mk _ _ _ _ n _ _=>n
def Nd.body:Nd->List Nd | .mk _ _ _ _ _ b _=>b
def Nd.els:Nd->List Nd | .mk _ _ _ _ _ _ e=>e
def Nd.zero:Nd:=.mk 0 ⟨#[]⟩ Ex.zero ⟨#[]⟩ ⟨#[]⟩ [] []
def nletB (c:UInt8):Bool:=letterB c || decide (c=95)
def npartB (c:UInt8):Bool:=nletB c || digitB c
def nameK:LB_->Nat
 | []=>0
 | c::r=>if nletB c then 1+(r.takeWhile npartB).length else 0
def nameL (l:LB_):Bool:=l.all npartB && (match l with | []=>false | c::_=>nletB c) && decide (l.length<=256)
theorem takeWhile_len {α:Type} (p:α->Bool):∀ l:List α,(l.takeWhile p).length<=l.length
 | []=>Nat.le_refl _
 | a::l=>by
  rw [List.takeWhile_cons]
  split
  ·simp only [List.length_cons];have:=takeWhile_len p l;omega
  ·simp
theorem nameK_le (l:LB_):nameK l<=l.length:=by
 cases l with
 | nil=>exact Nat.le_refl _
 | cons c r=>
  rw [nameK]
  split
  ·simp only [List.length_cons];have:=takeWhile_len npartB r;omega
  ·exact Nat.zero_le _
def nameT (l:LB_):ByteArray:=bs (l.take (nameK l))
def nameD (l:LB_):LB_:=l.drop (nameK l)
theorem nameD_len (l:LB_):(nameD l).length+nameK l=l.length:=by have:=nameK_le l;unfold nameD;simp;omega
def stepsL:Nat->LB_->List ByteArray × LB_
 | 0,l=>([],l)
 | n+1,46::c::r=>if nletB c then (nameT (c::r)::(stepsL n (nameD (c::r))).1,(stepsL n (nameD (c::r))).2) else ([],46::c::r)
 | _+1,l=>([],l)
def skipB (l:LB_):LB_:=Lib.trimLeftS l blanks
structure Rd where
 s:LB_
 deep:Int
 bad:Int
def Rd.fail (r:Rd) (e:Int):Rd:=⟨[],r.deep,if r.bad=0 then e else r.bad⟩
def Rd.go (r:Rd) (s:LB_):Rd:=⟨s,r.deep,r.bad⟩
def numK (l:LB_):Nat:=1+(l.tail.takeWhile digitB).length
def numV (l:LB_):Option T:=match parseT (bs l) with
 | some t=>if t.kind=2 then some t else none
 | none=>none
def numE (l:LB_):Int:=if (parseT (bs l)).isSome then 20 else 9
def plainOp (r:Rd):Option ((Ex × Bool) × Rd):=
 match skipB r.s with
 | []=>some ((Ex.zero,false),r.go [])
 | c::l=>
  if c=34 then match unqL (c::l) with
   | some (t,rest)=>some ((Ex.lit (tS (bs t)),true),r.go rest)
   | none=>some ((Ex.zero,true),(r.go (c::l)).fail 11)
  else if c=45\/digitB c then match numV ((c::l).take (numK (c::l))) with
   | some t=>some ((Ex.lit t,true),r.go ((c::l).drop (numK (c::l))))
   | none=>some ((Ex.zero,true),(r.go (c::l)).fail (numE ((c::l).take (numK (c::l)))))
  else if c=46 then match stepsL (l.length+1) (c::l) with
   | ([],rest)=>some ((.mk 1 T.zero ⟨#[]⟩ [] [],true),r.go (rest.drop 1))
   | (s::st,rest)=>some ((.mk 1 T.zero ⟨#[]⟩ (s::st) [],true),r.go rest)
  else if c=36 then
   if nameK l=0 then some ((Ex.zero,true),(r.go l).fail 20)
   else some ((.mk 2 T.zero (nameT l) (stepsL (l.length+1) (nameD l)).1 [],true),r.go (stepsL (l.length+1) (nameD l)).2)
  else if c=40 then none
  else if nletB c then
   if (c::l).take (nameK (c::l))=trueW then some ((Ex.lit (tB true),true),r.go (nameD (c::l)))
   else if (c::l).take (nameK (c::l))=falseW then some ((Ex.lit (tB false),true),r.go (nameD (c::l)))
   else if (c::l).take (nameK (c::l))=[110,105,108] then some ((Ex.zero,true),r.go (nameD (c::l)))
   else some ((Ex.zero,false),r.go (c::l))
  else some ((Ex.zero,false),r.go (c::l))
mutual
def operandF:Nat->Rd->(Ex × Bool) × Rd
 | 0,r=>((Ex.zero,false),r)
 | n+1,r=>match plainOp r with
  | some q=>q
  | none=>
   if 16 < r.deep+1 then ((Ex.zero,true),(⟨skipB r.s,r.deep+1,r.bad⟩:Rd).fail 5)
   else
    let q:=pipeF n ⟨(skipB r.s).drop 1,r.deep+1,r.bad⟩
    match skipB q.2.s with
    | 41::l=>((q.1,true),⟨l,q.2.deep - 1,q.2.bad⟩)
    | l=>((Ex.zero,true),(q.2.go l).fail 20)
def commandF:Nat->Rd->Ex × Rd
 | 0,r=>(Ex.zero,r)
 | n+1,r=>
  let q:=operandF n r
  if q.1.2 then (q.1.1,q.2)
  else if nameK q.2.s=0 then (Ex.zero,q.2.fail 20)
  else argsF n (Ex.call (nameT q.2.s) []) (q.2.go (nameD q.2.s))
def argsF:Nat->Ex->Rd->Ex × Rd
 | 0,x,r=>(x,r)
 | n+1,x,r=>
  let q:=operandF n r
  if q.1.2 then argsF n (x.push q.1.1) q.2
  else if nameK q.2.s=0 then (x,q.2)
  else argsF n (x.push (Ex.call (nameT q.2.s) [])) (q.2.go (nameD q.2.s))
def pipeF:Nat->Rd->Ex × Rd
 | 0,r=>(Ex.zero,r)
 | n+1,r=>let q:=commandF n r;barsF n q.1 q.2
def barsF:Nat->Ex->Rd->Ex × Rd
 | 0,x,r=>(x,r)
 | n+1,x,r=>match skipB r.s with
  | 124::l=>
   let q:=commandF n (r.go l)
   if q.1.kind≠3/\q.2.bad=0 then (Ex.zero,q.2.fail 20)
   else barsF n (q.1.push x) q.2
  | l=>(x,r.go l)
end
def fuelX (l:LB_):Nat:=4*l.length+8
def allF (s:LB_):Ex × Int:=
 let q:=pipeF (fuelX s) ⟨s,0,0⟩
 let b:=if q.2.bad=0/\skipB q.2.s≠[] then 20 else q.2.bad
 if b=0 then (q.1,0) else (Ex.zero,b)
def varL (s:LB_):ByteArray × LB_ × Bool:=
 match skipB s with
 | 36::l=>(nameT l,skipB (nameD l),decide (nameK l≠0))
 | _=>(⟨#[]⟩,[],false)
def setL (s:LB_):ByteArray × LB_ × Bool:=
 let v:=varL s
 if v.2.2 then match v.2.1 with
  | 58::61::l=>(v.1,l,true)
  | l=>(v.1,l,false)
 else v
structure Mk where
 rest:List Tok
 deep:Int
 bad:Int
def Mk.fail (m:Mk) (e:Int):Mk:=⟨[],m.deep,if m.bad=0 then e else m.bad⟩
def mpipe (m:Mk) (s:LB_):Ex × Mk:=((allF s).1,if (allF s).2=0 then m else m.fail (allF s).2)
def ifW:LB_:=[105,102]
def withW:LB_:=[119,105,116,104]
def rangeW:LB_:=[114,97,110,103,101]
def defineW:LB_:=[100,101,102,105,110,101]
def elseW:LB_:=[101,108,115,101]
def endW:LB_:=[101,110,100]
def wordL (s:LB_):LB_:=s.take (nameK s)
def headF (w s:LB_) (m:Mk):Nd × Mk:=
 if w=ifW then (.mk 2 ⟨#[]⟩ (mpipe m s).1 ⟨#[]⟩ ⟨#[]⟩ [] [],(mpipe m s).2)
 else if w=withW then (.mk 3 ⟨#[]⟩ (mpipe m s).1 ⟨#[]⟩ ⟨#[]⟩ [] [],(mpipe m s).2)
 else if w=defineW then
  let q:=allF s
  let bad:=q.2≠0\/q.1.kind≠0\/q.1.val.kind≠3\/nameL q.1.val.str.data.toList=false\/1 < m.deep
  (.mk 6 ⟨#[]⟩ Ex.zero ⟨#[]⟩ q.1.val.str [] [],if bad then m.fail (if q.2=0 then 22 else q.2) else m)
 else
  let v:=varL s
  match v.2.2,v.2.1 with
  | true,44::l=>
   let z:=setL l
   if z.2.2 then (.mk 4 ⟨#[]⟩ (mpipe m z.2.1).1 v.1 z.1 [] [],(mpipe m z.2.1).2)
   else (.mk 4 ⟨#[]⟩ (mpipe m s).1 ⟨#[]⟩ ⟨#[]⟩ [] [],(mpipe m s).2)
  | _,_=>
   let z:=setL s
   if z.2.2 then (.mk 4 ⟨#[]⟩ (mpipe m z.2.1).1 ⟨#[]⟩ z.1 [] [],(mpipe m z.2.1).2)
   else (.mk 4 ⟨#[]⟩ (mpipe m s).1 ⟨#[]⟩ ⟨#[]⟩ [] [],(mpipe m s).2)
structure Stop where
 out:List Nd
 stop:LB_
 rest:LB_
def Nd.setBody (n:Nd) (b:List Nd):Nd:=.mk n.kind n.text n.x n.key n.name b n.els
def Nd.setEls (n:Nd) (b:List Nd):Nd:=.mk n.kind n.text n.x n.key n.name n.body b
def Mk.up (m:Mk):Mk:=⟨m.rest,m.deep - 1,m.bad⟩
mutual
def nodesF:Nat->List Nd->Mk->Stop × Mk
 | 0,out,m=>(⟨out,[],[]⟩,m)
 | n+1,out,m=>match m.rest with
  | []=>(⟨out,[],[]⟩,m)
  | t::ts=>
   let m:=(⟨ts,m.deep,m.bad⟩:Mk)
   let w:=wordL t.s
   if t.act=false then nodesF n (out++[.mk 0 (bs t.s) Ex.zero ⟨#[]⟩ ⟨#[]⟩ [] []]) m
   else if w=endW\/w=elseW then (⟨out,w,nameD t.s⟩,m)
   else if w=ifW\/w=withW\/w=rangeW\/w=defineW then
    let q:=blockF n w (nameD t.s) m
    nodesF n (out++[q.1]) q.2
   else if (setL t.s).2.2 then
    let q:=mpipe m (setL t.s).2.1
    nodesF n (out++[.mk 5 ⟨#[]⟩ q.1 ⟨#[]⟩ (setL t.s).1 [] []]) q.2
   else
    let q:=mpipe m t.s
    nodesF n (out++[.mk 1 ⟨#[]⟩ q.1 ⟨#[]⟩ ⟨#[]⟩ [] []]) q.2
def blockF:Nat->LB_->LB_->Mk->Nd × Mk
 | 0,_,_,m=>(Nd.zero,m)
 | n+1,w,s,m=>
  let m:=(⟨m.rest,m.deep+1,m.bad⟩:Mk)
  if 16 < m.deep then (Nd.zero,m.fail 5)
  else
   let h:=headF w s m
   let b:=nodesF n [] h.2
   let nd:=h.1.setBody b.1.out
   let more:=wordL (skipB b.1.rest)
   let tail:=nameD (skipB b.1.rest)
   if b.1.stop=elseW/\w=ifW/\more=ifW then
    let e:=blockF n ifW tail b.2
    (nd.setEls [e.1],e.2.up)
   else if b.1.stop=elseW/\w≠defineW/\skipB b.1.rest=[] then
    let e:=nodesF n [] b.2
    (nd.setEls e.1.out,(if e.1.stop≠endW\/skipB e.1.rest≠[] then e.2.fail 21 else e.2).up)
   else (nd,(if b.1.stop≠endW\/skipB b.1.rest≠[] then b.2.fail 21 else b.2).up)
end
def fuelN (l:List Tok):Nat:=2*l.length+4
def parseF (s:LB_):List Nd × Int:=
 if 65536 < s.length then ([],6)
 else match splitM (s.length+1) s 0 false with
  | none=>([],21)
  | some toks=>
   let q:=nodesF (fuelN toks) [] ⟨toks,0,0⟩
   let m:=if q.1.stop≠[] then q.2.fail 21 else q.2
   if m.bad=0 then (q.1.out,0) else ([],m.bad)
end Go.Proofs.YtnblmhfgmehnnaaGreatDoor
