/- Several texts as one. -/
import Derived.Test.YtnblmhfgmehnnaaGreatDoorPeMv
import Derived.Test.YtnblmhfgmehnnaaGreatDoorPeAB
import Derived.Test.YtnblmhfgmehnnaaGreatDoorPeAC
import Derived.Deep.QuietTactic
import Derived.Test.YtnblmhfgmehnnaaGreatDoorShv
import Derived.Deep.LoopGhost
import Derived.Deep.RegionWith
import Derived.Test.YtnblmhfgmehnnaaGreatDoorRows
import Derived.Test.YtnblmhfgmehnnaaGreatDoorPeAA
set_option maxRecDepth 100000
set_option maxHeartbeats 8000000
namespace Go.Proofs.YtnblmhfgmehnnaaGreatDoor
open Go.RowKit Go.Lib
attribute [local go_sem ↓] Go.wp_at_zero Go.wp_at_succ
theorem takeWhile_at {α:Type} (p:α->Bool):∀ (l:List α) (k:Nat) (_:k<=(l.takeWhile p).length) (h:k < l.length),p l[k]=decide (k < (l.takeWhile p).length)
 | [],k,_,h=>absurd h (Nat.not_lt_zero _)
 | a::l,k,hk,h=>by
  rw [List.takeWhile_cons] at hk ⊢
  cases ha:p a with
  | false=>
   rw [ha] at hk
   obtain rfl:k=0:=by simpa using hk
   simp [ha]
  | true=>
   rw [ha] at hk
   simp only [if_true,List.length_cons] at hk ⊢
   cases k with
   | zero=>simp [ha]
   | succ k=>
    have:=takeWhile_at p l k (by omega) (by simpa using h)
    simp only [List.getElem_cons_succ,this,Nat.add_lt_add_iff_right]
theorem npart_of {c:UInt8} (h:nletB c=true):npartB c=true:=by unfold npartB;rw [h];rfl
theorem name_at (l:LB_) (i:Nat) (hi:i<=nameK l) (h:i < l.length):(npartB l[i] && (decide (0 < i) || nletB l[i]))=decide (i < nameK l):=by
 cases l with
 | nil=>exact absurd h (Nat.not_lt_zero _)
 | cons c r=>
  rw [nameK] at hi ⊢
  cases hc:nletB c with
  | false=>
   rw [hc] at hi
   obtain rfl:i=0:=by simpa using hi
   simp [hc]
  | true=>
   rw [hc] at hi
   simp only [if_true] at hi ⊢
   cases i with
   | zero=>simp [hc,npart_of hc];omega
   | succ k=>
    have h2:=takeWhile_at npartB r k (by omega) (by simpa using h)
    simp only [List.getElem_cons_succ,h2,Nat.zero_lt_succ,decide_true,Bool.true_or,Bool.and_true]
    congr 1
    rw [eq_iff_iff];omega
theorem byte_at {s:ByteArray} {k:Nat} (h:k < s.size):s[k]=s.data.toList[k]'(by rw [<-size_list];exact h):=by simp [ByteArray.getElem_eq_getElem_data]
theorem ext_take (s:ByteArray) {k:Nat}:s.extract 0 k=bs (s.data.toList.take k):=list_ext (by rw [extract_list,List.drop_zero,Nat.sub_zero])
theorem ext_drop (s:ByteArray) {k:Nat}:s.extract k s.size=bs (s.data.toList.drop k):=list_ext tail_list
structure Bar (w w':World) (gc:Nat):Prop where
 os:w'.os=w.os
 tape:w'.tape=w.tape
 output:w'.output=w.output
 size:w.heap.size<=w'.heap.size
 block:∀ b,b < w.heap.size->b≠gc->w'.heap[b]? =w.heap[b]?
theorem Bar.refl (w:World) (gc:Nat):Bar w w gc:=⟨rfl,rfl,rfl,Nat.le_refl _,fun _ _ _=>rfl⟩
theorem Bar.of {w w':World} {gc:Nat} (h:Below w.heap.size w w'):Bar w w' gc:=⟨h.os,h.tape,h.output,h.size,fun b hb _=>h.block b hb⟩
theorem Bar.trans {w1 w2 w3:World} {gc:Nat} (h:Bar w1 w2 gc) (k:Bar w2 w3 gc):Bar w1 w3 gc:=
 ⟨k.os.trans h.os,k.tape.trans h.tape,k.output.trans h.output,Nat.le_trans h.size k.size,fun b hb hg=>(k.block b (Nat.lt_of_lt_of_le hb h.size) hg).trans (h.block b hb hg)⟩
theorem Bar.blk {w w':World} {gc:Nat} (g:Bar w w' gc) {b ty:Nat} {cs:Array Value} (h:Blk w b ty cs) (hb:b≠gc):Blk w' b ty cs:=(g.block b h.lt hb).trans h
theorem Bar.set {w:World} (gc i:Nat) (v:Value):Bar w (w.setCell ⟨gc,i,none⟩ v) gc:=⟨rfl,rfl,rfl,by simp [World.setCell],fun b _ hb=>Below.heap_setCell w ⟨gc,i,none⟩ v b hb⟩
theorem Bar.below {w w' W:World} {gc B:Nat} (g:Bar w w' gc) (h:Below B W w) (hgc:B<=gc) (hB:B<=W.heap.size):Below B W w':=
 ⟨g.os.trans h.os,g.tape.trans h.tape,g.output.trans h.output,Nat.le_trans h.size g.size,fun b hb=>(g.block b (Nat.lt_of_lt_of_le hb (Nat.le_trans hB h.size)) (by omega)).trans (h.block b hb)⟩
theorem Bar.cell {w w':World} {gc b:Nat} (g:Bar w w' gc) (hb:b < w.heap.size) (hne:b≠gc) {o:Nat}:w'.cell? ⟨b,o,none⟩=w.cell? ⟨b,o,none⟩:=World.cell?_of_block (a:=⟨b,o,none⟩) (g.block b hb hne)
theorem RepX.bar {w w':World} {gc:Nat} {S:Nat->Prop} {cs:List Value} {x:Ex} (h:RepX w S cs x) (g:Bar w w' gc) (hS:∀ b,S b->b≠gc):RepX w' S cs x:=h.mono (fun _ h _=>h) fun _ _ hb hlt=>g.cell hlt (hS _ hb)
theorem OwnE.bar {α:Type} {E:Elt α} {w w':World} {gc B c:Nat} {S:Nat->Prop} {A:OA_} {l:List α} (h:OwnE E w B S A c l) (g:Bar w w' gc) (hB:gc < B) (hS:∀ b,S b->b≠gc):OwnE E w' B S A c l:=
 h.mono (fun b hb=>g.block b (h.own b hb).2 (by have:=(h.own b hb).1;omega)) (fun _ h _ _=>h) (fun _ _ hb hlt _=>g.cell hlt (hS _ hb))
def RdAt (w:World) (gc:Nat) (r:Rd):Prop:=Blk w gc 112 #[.string (bs r.s),.int .i64 r.deep,.int .i64 r.bad]
theorem RdAt.keep {w w':World} {gc:Nat} {r:Rd} (h:RdAt w gc r) (hb:Below w.heap.size w w'):RdAt w' gc r:=Blk.keep h hb
theorem RdAt.open {w:World} {gc:Nat} {r:Rd} (h:RdAt w gc r):∃ s:ByteArray,r.s=s.data.toList/\Blk w gc 112 #[.string s,.int .i64 r.deep,.int .i64 r.bad]:=⟨bs r.s,rfl,h⟩
theorem RdAt.of {w:World} {gc:Nat} {r:Rd} {s:ByteArray} {d b:Int} (h:Blk w gc 112 #[.string s,.int .i64 d,.int .i64 b]) (hs:s=bs r.s) (hd:d=r.deep) (hb:b=r.bad):RdAt w gc r:=by subst hs hd hb;exact h
theorem Blk.s0 {w:World} {g ty:Nat} {a b c:Value} (h:Blk w g ty #[a,b,c]) (v:Value):Blk (w.setCell ⟨g,0,none⟩ v) g ty #[v,b,c]:=h.set_ 0 v
theorem Blk.s1 {w:World} {g ty:Nat} {a b c:Value} (h:Blk w g ty #[a,b,c]) (v:Value):Blk (w.setCell ⟨g,1,none⟩ v) g ty #[a,v,c]:=h.set_ 1 v
theorem Blk.s2 {w:World} {g ty:Nat} {a b c:Value} (h:Blk w g ty #[a,b,c]) (v:Value):Blk (w.setCell ⟨g,2,none⟩ v) g ty #[a,b,v]:=h.set_ 2 v
theorem tletterP (c:UInt8) (w:World):Calls Tryz.prog 38 #[.int .u8 c.toNat] w fun e w'=>e=.returned (.bool (nletB c))/\w=w':=by
 have h256:=UInt8.toNat_lt c
 have hc:decide (c=95)=decide (c.toNat=95):=by rw [Bool.eq_iff_iff];simp [<-UInt8.toNat_inj]
 have he:nletB c=(letterB c || decide (c.toNat=95)):=by unfold nletB;rw [hc]
 rw [he];clear hc he
 go_enter Tryz.func38,Tryz.ntmps38
 go_wp2
 all_goals (go_ret;refine ⟨congrArg Ending.returned (show Value.bool _=_ from congrArg Value.bool ?_),rfl⟩;rw [Bool.eq_iff_iff];simp [letterB];omega)
theorem tpartP (c:UInt8) (w:World):Calls Tryz.prog 37 #[.int .u8 c.toNat] w fun e w'=>e=.returned (.bool (npartB c))/\w=w':=by
 have h256:=UInt8.toNat_lt c;have CL:=h_ (tletterP c w);have he:npartB c=(nletB c || digitB c):=rfl;rw [he];clear he
 generalize nletB c=lb at*
 go_enter Tryz.func37,Tryz.ntmps37
 cases lb
 all_goals
  go_wp2_with (go_at_call 38;refine CL.out.mono ?_;rintro e w9 ⟨rfl,rfl⟩)
  all_goals (go_ret;refine ⟨congrArg Ending.returned (show Value.bool _=_ from congrArg Value.bool ?_),rfl⟩;rw [Bool.eq_iff_iff];simp [digitB];try omega)
theorem tfail (gc:Nat) (r:Rd) (e0:Int) (w:World) (h:RdAt w gc r):Calls Tryz.prog 62 #[.pointer (some ⟨gc,0,none⟩),.int .i64 e0] w fun e w'=>e=.returned (.agg #[.int .i64 0,.int .i64 0,.bool false,.int .i64 0,.string ⟨#[]⟩,.slice none 0 0,.slice none 0 0,.string ⟨#[]⟩,.slice none 0 0,.slice none 0 0])/\RdAt w' gc (r.fail e0)/\Bar w w' gc:=by
 obtain ⟨s,hs,hblk⟩:=h.open;obtain ⟨rs,d,b⟩:=r
 simp only at hs hblk
 clear h;have H:=h_ hblk;have k0:=hblk.cell;have f0:=hblk.frozen;have l0:=hblk.lt;clear hblk
 by_cases hb:b=0
 ·have gb:(b==0)=true:=by rw [hb];rfl
  have HF:=h_ (show (⟨rs,d,b⟩:Rd).fail e0=⟨[],d,e0⟩ from by unfold Rd.fail;rw [if_pos hb]);clear hb
  go_enter Tryz.func62,Tryz.ntmps62
  go_wp2_with fail
  refine ret_cell rfl rfl (Blk.new_at _ _ _ (by simp [World.setCell])) Tryz.underlying50 (by kernel_rfl) rfl ⟨rfl,?_,((Bar.set gc 2 _).trans (Bar.set gc 0 _)).trans (Bar.of (Below.new _ _))⟩
  rw [HF.out]
  exact RdAt.of (((H.out.s2 _).s0 _).alloc _) rfl rfl rfl
 ·have gb:(b==0)=false:=bf_ hb
  have HF:=h_ (show (⟨rs,d,b⟩:Rd).fail e0=⟨[],d,b⟩ from by unfold Rd.fail;rw [if_neg hb]);clear hb
  go_enter Tryz.func62,Tryz.ntmps62
  go_wp2_with fail
  refine ret_cell rfl rfl (Blk.new_at _ _ _ (by simp [World.setCell])) Tryz.underlying50 (by kernel_rfl) rfl ⟨rfl,?_,(Bar.set gc 0 _).trans (Bar.of (Below.new _ _))⟩
  rw [HF.out]
  exact RdAt.of ((H.out.s0 _).alloc _) rfl rfl rfl
theorem tskip (gc:Nat) (r:Rd) (w:World) (h:RdAt w gc r):Calls Tryz.prog 61 #[.pointer (some ⟨gc,0,none⟩)] w fun e w'=>e=.returned (.tuple #[])/\RdAt w' gc (r.go (skipB r.s))/\Bar w w' gc:=by
 obtain ⟨s,hs,hblk⟩:=h.open;obtain ⟨rs,d,b⟩:=r
 simp only at hs hblk
 subst hs;clear h;have H:=h_ hblk;have k0:=hblk.cell;have f0:=hblk.frozen;have l0:=hblk.lt;clear hblk
 go_enter Tryz.func61,Tryz.ntmps61
 go_wp2_with fail
 refine (ttrimL s _).mono ?_
 rintro e w1 ⟨rfl,hb1⟩;have H1:=h_ (H.out.keep hb1);have HB:=h_ hb1;clear hb1 k0 f0 l0;have k0:=H1.out.cell;have f0:=H1.out.frozen;have l0:=H1.out.lt;go_wp2_with fail
 go_end0
 exact ⟨rfl,RdAt.of (H1.out.s0 _) rfl rfl rfl,(Bar.of HB.out).trans (Bar.set gc 0 _)⟩
theorem tname (gc:Nat) (r:Rd) (w:World) (h:RdAt w gc r) (hl:r.s.length<=1000000):Calls Tryz.prog 79 #[.pointer (some ⟨gc,0,none⟩)] w fun e w'=>e=.returned (.string (nameT r.s))/\RdAt w' gc (r.go (nameD r.s))/\Bar w w' gc:=by
 obtain ⟨s,hs,hblk⟩:=h.open;obtain ⟨rs,d,b⟩:=r
 simp only at hs hblk hl
 subst hs;clear h;rw [<-size_list] at hl;have hK:=nameK_le s.data.toList;rw [<-size_list] at hK;have H:=h_ hblk;have k0:=hblk.cell;have f0:=hblk.frozen;have l0:=hblk.lt;clear hblk;obtain ⟨K,hKe⟩:∃ z,z=nameK s.data.toList:=⟨_,rfl⟩;have HKE:=h_ hKe;rw [<-hKe] at hK;have NM:=h_ (show s.extract 0 K=nameT s.data.toList from by rw [ext_take,hKe];rfl);have ND:=h_ (show s.extract K s.size=bs (nameD s.data.toList) from by rw [ext_drop,hKe];rfl);clear hKe
 go_enter Tryz.func79,Tryz.ntmps79
 go_wp2_with fail
 go_loop [3] (fun x3=>∃ q:Nat,q<=K/\x3=.int .i64 q) (fun x3=>K - (Lib.intOf x3).toNat)
 case atStart=>exact ⟨0,Nat.zero_le _,rfl⟩
 case round=>
  obtain ⟨q,hq,rfl⟩:=hrel
  by_cases hlt:q < s.size
  ·have hlt2:(q:Int) < s.size:=by omega
   have h256:=UInt8.toNat_lt s[q];have ha:=name_at s.data.toList q (by rw [<-HKE.out];exact hq) (by rw [<-size_list];exact hlt);rw [<-byte_at hlt,<-HKE.out] at ha;have CP:=h_ (tpartP s[q] w);have CL:=h_ (tletterP s[q] w);obtain ⟨pb,hpb⟩:∃ z,z=npartB s[q]:=⟨_,rfl⟩;obtain ⟨lb,hlb⟩:∃ z,z=nletB s[q]:=⟨_,rfl⟩;rw [<-hpb] at CP ha;rw [<-hlb] at CL ha;clear hpb hlb
   have h1:q=0\/(0:Int) < q:=by omega
   cases pb with
   | false=>
    rw [Bool.false_and] at ha;have hqk:¬ q < K:=of_decide_eq_false ha.symm
    obtain rfl:q=K:=by omega
    clear ha
    go_wp2_with (first | (go_at_call 37;refine CP.out.mono ?_;rintro e w9 ⟨rfl,rfl⟩) | (go_at_call 38;refine CL.out.mono ?_;rintro e w9 ⟨rfl,rfl⟩))
    go_ret
    exact ⟨congrArg (fun v=>Ending.returned (Value.string v)) NM.out,RdAt.of (H.out.s0 _) ND.out rfl rfl,Bar.set gc 0 _⟩
   | true=>
    rw [Bool.true_and] at ha
    rcases h1 with rfl | h1
    ·rw [decide_eq_false (show ¬ 0 < 0 by omega),Bool.false_or] at ha
     cases lb with
     | false=>
      have hqk:¬ 0 < K:=of_decide_eq_false ha.symm
      obtain rfl:K=0:=by omega
      clear ha
      go_wp2_with (first | (go_at_call 37;refine CP.out.mono ?_;rintro e w9 ⟨rfl,rfl⟩) | (go_at_call 38;refine CL.out.mono ?_;rintro e w9 ⟨rfl,rfl⟩))
      go_ret
      exact ⟨congrArg (fun v=>Ending.returned (Value.string v)) (by have h9:=NM.out;simpa using h9),RdAt.of (H.out.s0 _) (show s=bs (nameD s.data.toList) from by have h9:=ND.out;simpa using h9) rfl rfl,Bar.set gc 0 _⟩
     | true=>
      have hqk:0 < K:=of_decide_eq_true ha.symm;clear ha
      go_wp2_with (first | (go_at_call 37;refine CP.out.mono ?_;rintro e w9 ⟨rfl,rfl⟩) | (go_at_call 38;refine CL.out.mono ?_;rintro e w9 ⟨rfl,rfl⟩))
      go_round
      case rel=>exact ⟨1,by omega,by go_num⟩
      case measure=>simp [Lib.intOf];omega
    ·rw [decide_eq_true (show 0 < q by omega),Bool.true_or] at ha
     have hqk:q < K:=of_decide_eq_true ha.symm;clear ha
     go_wp2_with (first | (go_at_call 37;refine CP.out.mono ?_;rintro e w9 ⟨rfl,rfl⟩) | (go_at_call 38;refine CL.out.mono ?_;rintro e w9 ⟨rfl,rfl⟩))
     go_round
     case rel=>exact ⟨q+1,by omega,by go_num⟩
     case measure=>simp [Lib.intOf];omega
  ·obtain rfl:q=K:=by omega
   go_wp2_with fail;go_ret
   exact ⟨congrArg (fun v=>Ending.returned (Value.string v)) NM.out,RdAt.of (H.out.s0 _) ND.out rfl rfl,Bar.set gc 0 _⟩
end Go.Proofs.YtnblmhfgmehnnaaGreatDoor
namespace Go.Proofs.YtnblmhfgmehnnaaGreatDoor
open Go.RowKit
attribute [local go_sem ↓] Go.wp_at_zero Go.wp_at_succ
def orI (x y:Int):Int:=if x≠0 then x else y
end Go.Proofs.YtnblmhfgmehnnaaGreatDoor
namespace Go.Proofs.YtnblmhfgmehnnaaGreatDoor
open Go.RowKit Go.Lib
attribute [local go_sem ↓] Go.wp_at_zero Go.wp_at_succ
theorem Bar.grow {w wr w':World} {gc:Nat} {o:Obj} {row:Option Nat} (h:Bar w wr gc) (g:(wr.alloc o).grownBy w' row) (hr:∀ b,row=some b->w.heap.size<=b):Bar w w' gc:=by
 have hn:Below wr.heap.size wr (wr.alloc o):=Below.new _ _;have hz:=hn.size
 refine ⟨g.os.trans (hn.os.trans h.os),g.tape.trans (hn.tape.trans h.tape),g.output.trans (hn.output.trans h.output),Nat.le_trans h.size (Nat.le_trans hz g.size),fun b hb hne=>?_⟩
 have hb2:=Nat.lt_of_lt_of_le hb h.size
 exact (g.block b (Nat.lt_of_lt_of_le hb2 hz) (fun e=>by have:=hr b e.symm;omega)).trans ((hn.block b hb2).trans (h.block b hb hne))
theorem RdAt.grow {wr w':World} {gc:Nat} {r:Rd} {o:Obj} {row:Option Nat} (h:RdAt wr gc r) (g:(wr.alloc o).grownBy w' row) (hr:row≠some gc):RdAt w' gc r:=
 (g.block gc (Nat.lt_of_lt_of_le (Blk.lt h) (by simp)) (fun e=>hr e.symm)).trans ((Below.new wr o).block gc (Blk.lt h) |>.trans h)
theorem own_snocP {w:World} {B:Nat} {S:Nat->Prop} {A:OA_} {c:Nat} {l:List ByteArray} {s:ByteArray} (h:OwnE eltS w B S A c l) (hB:B<=w.heap.size) (hs:s.size<=140737488351232) (hl:l.length<=1000000):
  ∃ A' c' w',(Builtin.append_ #[42,42] 42 #[.slice A l.length c,.slice (some ⟨w.heap.size,0,none⟩) 1 1]).run Tryz.prog (w.alloc (.cells #[.string s] 9))=.ok (.slice A' (l++[s]).length c') w'/\OwnE eltS w' B S A' c' (l++[s])/\(w.alloc (.cells #[.string s] 9)).grownBy w' (Value.ownBlock (.slice A l.length c)):=by
 have ha:Below w.heap.size w (w.alloc (.cells #[.string s] 9)):=Below.new _ _
 exact own_append (E:=eltS) (l2:=[s]) (es:=[.string s]) (ad:=⟨w.heap.size,0,none⟩) (cc:=1) (ty:=42) (t:=42) rfl (h.keep ha) (by show (l.length+1)*16<=_;omega) (by simp;unfold maxLen;omega) (by simp;omega) (by rfl)
  (fun j u hu=>by rw [show (⟨w.heap.size,0,none⟩:Addr).add j=⟨w.heap.size,0+j,none⟩ from by unfold Addr.add;split <;>simp_all,Nat.zero_add,(Blk.new w 9 #[.string s]).cell];simpa using hu)
  (fun i hi=>by
   obtain rfl:i=0:=by simpa using hi
   exact ⟨rfl,hs⟩)
theorem nameT_size {l:LB_} (h:l.length<=1000000):(nameT l).size<=140737488351232:=by
 unfold nameT;rw [bs_size,List.length_take]
 omega
theorem stepsL_cons {m:Nat} {c:UInt8} {r:LB_} (h:nletB c=true):stepsL (m+1) (46::c::r)=(nameT (c::r)::(stepsL m (nameD (c::r))).1,(stepsL m (nameD (c::r))).2):=by
 rw [stepsL,if_pos h]
theorem stepsL_stop (m:Nat):∀ {l:LB_},(∀ c r,l=46::c::r->nletB c=false)->stepsL m l=([],l):=by
 intro l h
 cases m with
 | zero=>rfl
 | succ m=>
  match l,h with
  | [],_=>rfl
  | [a],_=>by_cases ha:a=46 <;>simp [stepsL]
  | a::c::r,h=>
   by_cases ha:a=46
   ·subst ha
    rw [stepsL,if_neg (by rw [h c r rfl];decide)]
   ·rw [stepsL]
    intro c' r' e
    injection e with e1 _
    exact ha e1
theorem tsteps (gc:Nat) (r:Rd) (N:Nat) (w:World) (h:RdAt w gc r) (hl:r.s.length<=1000000) (hN:r.s.length<=N):Calls Tryz.prog 107 #[.pointer (some ⟨gc,0,none⟩)] w fun e w'=>∃ A c,e=.returned (.slice A (stepsL N r.s).1.length c)/\OwnE eltS w' w.heap.size (fun _=>False) A c (stepsL N r.s).1/\RdAt w' gc (r.go (stepsL N r.s).2)/\Bar w w' gc:=by
 have hgc:=Blk.lt h;obtain ⟨rs,d,b⟩:=r
 simp only at hl hN
 have H:=h_ h;clear h;obtain ⟨out0,ho0⟩:∃ z,z=(stepsL N rs).1:=⟨_,rfl⟩;obtain ⟨rest0,hr0⟩:∃ z,z=(stepsL N rs).2:=⟨_,rfl⟩
 simp only
 rw [<-ho0,<-hr0];have HO0:=h_ ho0;have HR0:=h_ hr0;clear ho0 hr0
 go_enter Tryz.func107,Tryz.ntmps107
 go_wp2_with fail
 go_loopg [3] rs.length (fun g x3 wr=>∃ (s:ByteArray) (m:Nat) (out:List ByteArray) (A:OA_) (c:Nat),x3=.slice A out.length c/\g=s.size/\s.size<=m/\s.size<=1000000/\out.length+s.size<=1000000/\Hid (out0=out++(stepsL m s.data.toList).1)/\Hid (rest0=(stepsL m s.data.toList).2)/\Hid (OwnE eltS wr w.heap.size (fun _=>False) A c out)/\Hid (Blk wr gc 112 #[.string s,.int .i64 d,.int .i64 b])/\Hid (Bar w wr gc))
 case atStart=>
  have e:(bs rs).size=rs.length:=bs_size rs
  exact ⟨bs rs,N,[],none,0,rfl,e.symm,by omega,by omega,by simp;omega,h_ (by rw [bs_list,List.nil_append];exact HO0.out),h_ (by rw [bs_list];exact HR0.out),h_ OwnE.nil,H,h_ (Bar.refl _ _)⟩
 case round=>
  obtain ⟨s,m,out,A,c,rfl,rfl,hm,hs6,hos,HO,HR,HOW,HB,HBR⟩:=hrel;have k0:=HB.out.cell;have f0:=HB.out.frozen;have l0:=HB.out.lt
  by_cases h1:(s.size:Int)<=1
  ·have hst:∀ c r,s.data.toList=46::c::r->nletB c=false:=fun c r e=>by
    have h2:=congrArg List.length e;rw [<-size_list] at h2
    simp only [List.length_cons] at h2
    omega
   have e1:=HO.out;have e2:=HR.out;rw [stepsL_stop m hst] at e1 e2;rw [List.append_nil] at e1
   simp only at e2
   have E1:=h_ e1;have E2:=h_ e2;clear e1 e2 hst;go_wp2_with fail;go_ret;rw [E1.out]
   exact ⟨A,c,rfl,HOW.out,RdAt.of HB.out (by show s=bs rest0;rw [E2.out]) rfl rfl,HBR.out⟩
  have h1:1 < s.size:=by omega
  have h1i:(1:Int) < s.size:=by omega
  have h0i:(0:Int) < s.size:=by omega
  have hls:s.data.toList=s[0]::s[1]::s.data.toList.drop 2:=by
   have e1:=byte_list (s:=s) (k:=0) (by omega);have e2:=byte_list (s:=s) (k:=1) h1;rw [List.drop_zero] at e1;rw [e2] at e1
   exact e1
  have hb0:=UInt8.toNat_lt s[0];have hb1:=UInt8.toNat_lt s[1]
  by_cases h46:¬ s[0]=46
  ·have g46:((s[0].toNat:Int)==46)=false:=bf_ (fun e=>h46 (UInt8.toNat_inj.1 (by have:(46:UInt8).toNat=46:=rfl;omega)))
   have hst:∀ c r,s.data.toList=46::c::r->nletB c=false:=fun c r e=>by
    rw [hls] at e;injection e with e _;exact absurd e h46
   clear hls h46;have e1:=HO.out;have e2:=HR.out;rw [stepsL_stop m hst] at e1 e2;rw [List.append_nil] at e1
   simp only at e2
   have E1:=h_ e1;have E2:=h_ e2;clear e1 e2 hst;go_wp2_with fail;go_ret;rw [E1.out]
   exact ⟨A,c,rfl,HOW.out,RdAt.of HB.out (by show s=bs rest0;rw [E2.out]) rfl rfl,HBR.out⟩
  have h46:=Decidable.not_not.1 h46
  have g46:((s[0].toNat:Int)==46)=true:=by rw [h46];rfl
  have CL:=h_ (tletterP s[1] wr)
  cases hlb:nletB s[1] with
  | false=>
   rw [hlb] at CL
   have hst:∀ c r,s.data.toList=46::c::r->nletB c=false:=fun c r e=>by
    rw [hls] at e;injection e with _ e;injection e with e _;rw [<-e];exact hlb
   clear hls h46 hlb;have e1:=HO.out;have e2:=HR.out;rw [stepsL_stop m hst] at e1 e2;rw [List.append_nil] at e1
   simp only at e2
   have E1:=h_ e1;have E2:=h_ e2;clear e1 e2 hst
   go_wp2_with (go_at_call 38;refine CL.out.mono ?_;rintro e w9 ⟨rfl,rfl⟩)
   go_ret;rw [E1.out]
   exact ⟨A,c,rfl,HOW.out,RdAt.of HB.out (by show s=bs rest0;rw [E2.out]) rfl rfl,HBR.out⟩
  | true=>
   rw [hlb] at CL;obtain ⟨s1,hs1⟩:∃ z,z=s.extract 1 s.size:=⟨_,rfl⟩
   have hd1:s1.data.toList=s[1]::s.data.toList.drop 2:=by rw [hs1,tail_list,hls];rfl
   have hz1:s1.size+1=s.size:=by rw [size_list,hd1,size_list s,hls];rfl
   obtain ⟨m2,rfl⟩:∃ m2,m=m2+1:=⟨m - 1,by omega⟩
   have hst:stepsL (m2+1) s.data.toList=(nameT s1.data.toList::(stepsL m2 (nameD s1.data.toList)).1,(stepsL m2 (nameD s1.data.toList)).2):=by rw [hls,h46,stepsL_cons hlb,hd1]
   have hnl:=nameD_len s1.data.toList;rw [<-size_list] at hnl
   have hk1:0 < nameK s1.data.toList:=by rw [hd1,nameK,if_pos hlb];omega
   have e1:=HO.out;have e2:=HR.out;rw [hst] at e1 e2
   simp only at e1 e2
   have E1:=h_ e1;have E2:=h_ e2;have S1:=h_ hs1;have HRD:=h_ (show RdAt (wr.setCell ⟨gc,0,none⟩ (.string (s.extract 1 s.size))) gc ⟨s1.data.toList,d,b⟩ from RdAt.of (HB.out.s0 _) (by rw [<-hs1]) rfl rfl);clear hls h46 hlb hd1 hst e1 e2 hs1 HO HR
   go_wp2_with (go_at_call 38;refine CL.out.mono ?_;rintro e w9 ⟨rfl,rfl⟩)
   refine (tname gc ⟨s1.data.toList,d,b⟩ _ HRD.out (by rw [<-size_list];omega)).mono ?_
   rintro e w1 ⟨rfl,hrd,hbar⟩;have HOW1:=h_ (HOW.out.bar ((Bar.set gc 0 _).trans hbar) hgc (fun _ h=>h.elim));have HBR1:=h_ ((HBR.out.trans (Bar.set gc 0 _)).trans hbar);have hnz:=nameT_size (l:=s1.data.toList) (by rw [<-size_list];omega);obtain ⟨A2,c2,w2,hrun,ho2,hg2⟩:=own_snocP HOW1.out HBR1.out.size hnz (by omega)
   have hrow:∀ b,Value.ownBlock (.slice A out.length c)=some b->w.heap.size<=b:=fun b e=>(HOW1.out.own b e).1
   have HB2:=h_ (HBR1.out.grow hg2 hrow);have HR2:=h_ (hrd.grow hg2 (fun e=>by have:=hrow gc e;omega));obtain ⟨out2,ho⟩:∃ z,z=out++[nameT s1.data.toList]:=⟨_,rfl⟩;rw [<-ho] at hrun ho2;have RUN:=h_ hrun;have HO2:=h_ ho2;have HOE:=h_ ho;have HLE:=h_ (show out2.length=out.length+1 from by rw [ho,List.length_append];rfl);have HSZ:=h_ (bs_size (nameD s1.data.toList));clear hrun ho2 hg2 hrow ho hrd hbar k0 f0 l0
   go_wp2_with (at_builtin;refine wpList_append_run rfl (.tmp 34) (.tmp 37) 42 rfl RUN.out rfl rfl ?_)
   go_roundg (bs (nameD s1.data.toList)).size
   case measure=>have:=HSZ.out;omega
   case rel=>exact ⟨bs (nameD s1.data.toList),m2,out2,A2,c2,rfl,rfl,by have:=HSZ.out;omega,by have:=HSZ.out;omega,by have:=HSZ.out;have:=HLE.out;omega,h_ (by rw [bs_list,HOE.out,List.append_assoc];exact E1.out),h_ (by rw [bs_list];exact E2.out),HO2,HR2,HB2⟩
def set10 (w:World) (g:Nat) (c0 c1 c2 c3 c4 c5 c6 c7 c8 c9:Value):World:=((((((((((w.setCell ⟨g,0,none⟩ c0).setCell ⟨g,1,none⟩ c1).setCell ⟨g,2,none⟩ c2).setCell ⟨g,3,none⟩ c3).setCell ⟨g,4,none⟩ c4).setCell ⟨g,5,none⟩ c5).setCell ⟨g,6,none⟩ c6).setCell ⟨g,7,none⟩ c7).setCell ⟨g,8,none⟩ c8).setCell ⟨g,9,none⟩ c9)
theorem blk_set10 {w:World} {g ty:Nat} {c0 c1 c2 c3 c4 c5 c6 c7 c8 c9 d0 d1 d2 d3 d4 d5 d6 d7 d8 d9:Value} (h:Blk w g ty #[d0,d1,d2,d3,d4,d5,d6,d7,d8,d9]):Blk (set10 w g c0 c1 c2 c3 c4 c5 c6 c7 c8 c9) g ty #[c0,c1,c2,c3,c4,c5,c6,c7,c8,c9]:=by
 have h1:Blk (w.setCell ⟨g,0,none⟩ c0) g ty #[c0,d1,d2,d3,d4,d5,d6,d7,d8,d9]:=h.set_ 0 c0;have h2:Blk ((w.setCell ⟨g,0,none⟩ c0).setCell ⟨g,1,none⟩ c1) g ty #[c0,c1,d2,d3,d4,d5,d6,d7,d8,d9]:=h1.set_ 1 c1;have h3:Blk (((w.setCell ⟨g,0,none⟩ c0).setCell ⟨g,1,none⟩ c1).setCell ⟨g,2,none⟩ c2) g ty #[c0,c1,c2,d3,d4,d5,d6,d7,d8,d9]:=h2.set_ 2 c2;have h4:Blk ((((w.setCell ⟨g,0,none⟩ c0).setCell ⟨g,1,none⟩ c1).setCell ⟨g,2,none⟩ c2).setCell ⟨g,3,none⟩ c3) g ty #[c0,c1,c2,c3,d4,d5,d6,d7,d8,d9]:=h3.set_ 3 c3;have h5:Blk (((((w.setCell ⟨g,0,none⟩ c0).setCell ⟨g,1,none⟩ c1).setCell ⟨g,2,none⟩ c2).setCell ⟨g,3,none⟩ c3).setCell ⟨g,4,none⟩ c4) g ty #[c0,c1,c2,c3,c4,d5,d6,d7,d8,d9]:=h4.set_ 4 c4;have h6:Blk ((((((w.setCell ⟨g,0,none⟩ c0).setCell ⟨g,1,none⟩ c1).setCell ⟨g,2,none⟩ c2).setCell ⟨g,3,none⟩ c3).setCell ⟨g,4,none⟩ c4).setCell ⟨g,5,none⟩ c5) g ty #[c0,c1,c2,c3,c4,c5,d6,d7,d8,d9]:=h5.set_ 5 c5;have h7:Blk (((((((w.setCell ⟨g,0,none⟩ c0).setCell ⟨g,1,none⟩ c1).setCell ⟨g,2,none⟩ c2).setCell ⟨g,3,none⟩ c3).setCell ⟨g,4,none⟩ c4).setCell ⟨g,5,none⟩ c5).setCell ⟨g,6,none⟩ c6) g ty #[c0,c1,c2,c3,c4,c5,c6,d7,d8,d9]:=h6.set_ 6 c6;have h8:Blk ((((((((w.setCell ⟨g,0,none⟩ c0).setCell ⟨g,1,none⟩ c1).setCell ⟨g,2,none⟩ c2).setCell ⟨g,3,none⟩ c3).setCell ⟨g,4,none⟩ c4).setCell ⟨g,5,none⟩ c5).setCell ⟨g,6,none⟩ c6).setCell ⟨g,7,none⟩ c7) g ty #[c0,c1,c2,c3,c4,c5,c6,c7,d8,d9]:=h7.set_ 7 c7;have h9:Blk (((((((((w.setCell ⟨g,0,none⟩ c0).setCell ⟨g,1,none⟩ c1).setCell ⟨g,2,none⟩ c2).setCell ⟨g,3,none⟩ c3).setCell ⟨g,4,none⟩ c4).setCell ⟨g,5,none⟩ c5).setCell ⟨g,6,none⟩ c6).setCell ⟨g,7,none⟩ c7).setCell ⟨g,8,none⟩ c8) g ty #[c0,c1,c2,c3,c4,c5,c6,c7,c8,d9]:=h8.set_ 8 c8;have h10:Blk ((((((((((w.setCell ⟨g,0,none⟩ c0).setCell ⟨g,1,none⟩ c1).setCell ⟨g,2,none⟩ c2).setCell ⟨g,3,none⟩ c3).setCell ⟨g,4,none⟩ c4).setCell ⟨g,5,none⟩ c5).setCell ⟨g,6,none⟩ c6).setCell ⟨g,7,none⟩ c7).setCell ⟨g,8,none⟩ c8).setCell ⟨g,9,none⟩ c9) g ty #[c0,c1,c2,c3,c4,c5,c6,c7,c8,c9]:=h9.set_ 9 c9
 exact h10
theorem bar_set10 (w:World) (g:Nat) (c0 c1 c2 c3 c4 c5 c6 c7 c8 c9:Value):Bar w (set10 w g c0 c1 c2 c3 c4 c5 c6 c7 c8 c9) g:=
 (((((((((Bar.set g 0 _).trans (Bar.set g 1 _)).trans (Bar.set g 2 _)).trans (Bar.set g 3 _)).trans (Bar.set g 4 _)).trans (Bar.set g 5 _)).trans (Bar.set g 6 _)).trans (Bar.set g 7 _)).trans (Bar.set g 8 _)).trans (Bar.set g 9 _)
theorem Bar.join {w0 w1 w2:World} {gc g:Nat} (h:Bar w0 w1 gc) (k:Bar w1 w2 g) (hg:w0.heap.size<=g):Bar w0 w2 gc:=
 ⟨k.os.trans h.os,k.tape.trans h.tape,k.output.trans h.output,Nat.le_trans h.size k.size,fun b hb hne=>(k.block b (Nat.lt_of_lt_of_le hb h.size) (by omega)).trans (h.block b hb hne)⟩
theorem RdAt.bar {w w':World} {gc g:Nat} {r:Rd} (h:RdAt w gc r) (k:Bar w w' g) (hne:gc≠g):RdAt w' gc r:=k.blk h hne
theorem OwnE.low {α:Type} {E:Elt α} {w:World} {B B' c:Nat} {S:Nat->Prop} {A:OA_} {l:List α} (h:OwnE E w B S A c l) (hB:B'<=B):OwnE E w B' S A c l:=by
 obtain ⟨xs,⟨h0,h1⟩,h2⟩:=h
 refine ⟨xs,⟨h0,?_⟩,h2⟩
 rcases h1 with h1 | ⟨g,cap,cur,e,h3,h4⟩
 ·exact .inl h1
 ·exact .inr ⟨g,cap,cur,e,Nat.le_trans hB h3,h4⟩
def RepOS (w:World) (S:Nat->Prop) (cs:List Value) (x:Ex):Prop:=
 RepX w S cs x/\∃ la lc ma mc sa sc aa ac,cs=[.int .i64 x.kind,.int .i64 x.val.kind,.bool x.val.bool,.int .i64 x.val.int,.string x.val.str,.slice la x.val.list.length lc,.slice ma x.val.map.length mc,.string x.name,.slice sa x.steps.length sc,.slice aa x.args.length ac]/\OwnE eltX w 0 S aa ac x.args/\(∀ g,Value.ownBlock (.slice aa x.args.length ac)=some g->S g)/\
  RepT w (fun b=>S b/\Value.ownBlock (.slice aa x.args.length ac)≠some b) (.agg #[.int .i64 x.val.kind,.bool x.val.bool,.int .i64 x.val.int,.string x.val.str,.slice la x.val.list.length lc,.slice ma x.val.map.length mc]) x.val/\RepS w (fun b=>S b/\Value.ownBlock (.slice aa x.args.length ac)≠some b) sa x.steps
def RepO (w:World) (B:Nat) (cs:List Value) (x:Ex):Prop:=RepOS w (fun b=>B<=b) cs x
theorem RepOS.leaf {w:World} {S:Nat->Prop} {cs:List Value} {x:Ex} (h:RepX w S cs x) (h9:cs[9]? =some (.slice none 0 0)) (ha:x.args=[]):RepOS w S cs x:=by
 refine ⟨h,?_⟩
 obtain ⟨la,lc,ma,mc,sa,sc,aa,ac,rfl,hp⟩:=h.inv
 simp only [List.getElem?_cons_succ,List.getElem?_cons_zero,Option.some.injEq,Value.slice.injEq] at h9
 obtain ⟨rfl,h0,rfl⟩:=h9
 refine ⟨la,lc,ma,mc,sa,sc,none,0,rfl,by rw [ha];exact OwnE.nil,fun g e=>(by cases e),hp.val.mono (fun _ hb _=>⟨hb,fun e=>by cases e⟩) (fun _ _ _ _=>rfl),hp.steps.mono (fun _ hb _=>⟨hb,fun e=>by cases e⟩) (fun _ _ _ _=>rfl)⟩
theorem RepO.leaf {w:World} {B:Nat} {cs:List Value} {x:Ex} (h:RepX w (fun b=>B<=b) cs x) (h9:cs[9]? =some (.slice none 0 0)) (ha:x.args=[]):RepO w B cs x:=RepOS.leaf h h9 ha
theorem RepOS.mono {w w':World} {S S':Nat->Prop} {cs:List Value} {x:Ex} (h:RepOS w S cs x) (hS:∀ b,S b->b < w.heap.size->S' b) (hw:∀ b,S b->b < w.heap.size->w'.heap[b]? =w.heap[b]?):RepOS w' S' cs x:=by
 obtain ⟨h1,la,lc,ma,mc,sa,sc,aa,ac,rfl,h3,h4,h5,h6⟩:=h
 have hc:∀ b o,S b->b < w.heap.size->w'.cell? ⟨b,o,none⟩=w.cell? ⟨b,o,none⟩:=fun b o hb hlt=>World.cell?_of_block (a:=⟨b,o,none⟩) (hw b hb hlt)
 exact ⟨h1.mono hS hc,la,lc,ma,mc,sa,sc,aa,ac,rfl,h3.mono (fun g hg=>hw g (h4 g hg) (h3.own g hg).2) (fun b hb hlt _=>hS b hb hlt) (fun b o hb hlt _=>hc b o hb hlt),fun g hg=>hS g (h4 g hg) (h3.own g hg).2,h5.mono (fun b hb hlt=>⟨hS b hb.1 hlt,hb.2⟩) (fun b o hb hlt=>hc b o hb.1 hlt),h6.mono (fun b hb hlt=>⟨hS b hb.1 hlt,hb.2⟩) (fun b o hb hlt=>hc b o hb.1 hlt)⟩
theorem RepO.mono {w w':World} {B B':Nat} {cs:List Value} {x:Ex} (h:RepO w B cs x) (hB:B'<=B) (hw:∀ b,B<=b->b < w.heap.size->w'.heap[b]? =w.heap[b]?):RepO w' B' cs x:=RepOS.mono h (fun _ hb _=>Nat.le_trans hB hb) hw
theorem RepO.keep {w w':World} {B:Nat} {cs:List Value} {x:Ex} (h:RepO w B cs x) (hb:Below w.heap.size w w'):RepO w' B cs x:=h.mono (Nat.le_refl _) (fun b _ hlt=>hb.block b hlt)
theorem RepO.bar {w w':World} {gc B:Nat} {cs:List Value} {x:Ex} (h:RepO w B cs x) (g:Bar w w' gc) (hgc:gc < B):RepO w' B cs x:=h.mono (Nat.le_refl _) (fun b hb hlt=>g.block b hlt (by omega))
def ExPost (gc:Nat) (x:Ex) (r':Rd) (w:World) (e:Ending) (w':World):Prop:=
 ∃ cs,e=.returned (.agg (List.toArray cs))/\RepO w' w.heap.size cs x/\RdAt w' gc r'/\Bar w w' gc
def OpPost (gc:Nat) (x:Ex) (b:Bool) (r':Rd) (w:World) (e:Ending) (w':World):Prop:=
 ∃ cs,e=.returned (.tuple #[.agg (List.toArray cs),.bool b])/\RepO w' w.heap.size cs x/\RdAt w' gc r'/\Bar w w' gc
theorem repX_lit {w:World} {S:Nat->Prop} {t:T} {la:OA_} {lc:Nat} {ma:OA_} {mc:Nat} (h:RepT w S (.agg #[.int .i64 t.kind,.bool t.bool,.int .i64 t.int,.string t.str,.slice la t.list.length lc,.slice ma t.map.length mc]) t):RepX w S [.int .i64 0,.int .i64 t.kind,.bool t.bool,.int .i64 t.int,.string t.str,.slice la t.list.length lc,.slice ma t.map.length mc,.string ⟨#[]⟩,.slice none 0 0,.slice none 0 0] (Ex.lit t):=
 RepX.of (x:=Ex.lit t) (la:=la) (lc:=lc) (ma:=ma) (mc:=mc) (sa:=none) (sc:=0) (aa:=none) (ac:=0) ⟨(show i64ok 0 by unfold i64ok;omega),h,(show ByteArray.size ⟨#[]⟩<=_ by simp [ByteArray.size]),RepS.nil',Room.nil _,Room.nil _,RepXs.nil⟩
theorem repX_zero {w:World} {S:Nat->Prop}:RepX w S [.int .i64 0,.int .i64 0,.bool false,.int .i64 0,.string ⟨#[]⟩,.slice none 0 0,.slice none 0 0,.string ⟨#[]⟩,.slice none 0 0,.slice none 0 0] Ex.zero:=repX_lit (t:=T.zero) (la:=none) (lc:=0) (ma:=none) (mc:=0) (rep_zero _ _)
theorem repO_zero {w:World} {B:Nat}:RepO w B [.int .i64 0,.int .i64 0,.bool false,.int .i64 0,.string ⟨#[]⟩,.slice none 0 0,.slice none 0 0,.string ⟨#[]⟩,.slice none 0 0,.slice none 0 0] Ex.zero:=RepO.leaf repX_zero rfl rfl
def Glob (gc:Nat):Prop:=5≠gc/\4≠gc
theorem var_blockP {P:Program} {w w':World} {n:String} {cs:Array Value} {g:Nat} (hg:P.globalNamed n=some g) (h:w.var? P n=some cs) (e:g < w.heap.size->w'.heap[g]? =w.heap[g]?):w'.var? P n=some cs:=by
 unfold World.var? at h ⊢
 simp only [hg,Option.bind_some] at h ⊢
 rw [e]
 ·exact h
 ·rcases Nat.lt_or_ge g w.heap.size with h' | h'
  ·exact h'
  ·simp [Array.getElem?_eq_none h'] at h
theorem ScalV.bar {w w':World} {gc:Nat} (h:ScalV w) (g:Bar w w' gc) (hg:Glob gc):ScalV w':=by
 obtain ⟨h1,tp,p,h2⟩:=h
 exact ⟨var_blockP (g:=5) (by kernel_rfl) h1 (fun hlt=>g.block _ hlt hg.1),tp,p,var_blockP (g:=4) (by kernel_rfl) h2 (fun hlt=>g.block _ hlt hg.2)⟩
theorem cmp_orE {g:Nat} {x y:Int} {t:TypeId} (w:World) (hb:Blk w g t #[.int .i64 x,.int .i64 y]):Calls Tryz.prog 96 #[.slice (some ⟨g,0,none⟩) 2 2] w fun e w'=>e=.returned (.int .i64 (orI x y))/\w=w':=by
 have hk:=hb.cell;clear hb;have HZ:Hid ((x≠0->orI x y=x)/\(x=0->orI x y=y)):=⟨fun h=>if_pos h,fun h=>if_neg (by simp [h])⟩
 generalize orI x y=z at*
 go_enter Tryz.func96,Tryz.ntmps96
 go_wp2_with fail
 go_loop [8] (fun i=>∃ q:Nat,q<=2/\i=.int .i64 q/\Hid (0 < q->x=0)/\Hid (1 < q->y=0)) (fun i=>2 - (Lib.intOf i).toNat)
 case atStart=>exact ⟨0,by omega,rfl,fun h=>by omega,fun h=>by omega⟩
 case round=>
  obtain ⟨q,hq,rfl,H1,H2⟩:=hrel
  match q,hq with
  | 0,_=>
   by_cases hx:x=0
   ·subst hx
    go_wp2_with fail
    go_round
    case rel=>exact ⟨1,by omega,rfl,fun _=>(by first | exact trivial | rfl),fun h=>by omega⟩
    case measure=>simp [Lib.intOf]
   ·have g1:(x !=0)=true:=bne_iff_ne.2 hx
    have HX:=h_ (HZ.out.1 hx);clear hx;go_wp2_with fail;go_ret
    exact ⟨by rw [HX.out];rfl,rfl⟩
  | 1,_=>
   have HX:=h_ (HZ.out.2 (H1.out (by omega)))
   by_cases hy:y=0
   ·subst hy
    go_wp2_with fail
    go_round
    case rel=>exact ⟨2,by omega,rfl,fun _=>H1.out (by omega),fun h=>(by first | exact trivial | rfl)⟩
    case measure=>simp [Lib.intOf]
   ·have g1:(y !=0)=true:=bne_iff_ne.2 hy
    clear hy;go_wp2_with fail;go_ret
    exact ⟨by rw [HX.out];rfl,rfl⟩
  | 2,_=>
   have HX:=h_ (HZ.out.2 (H1.out (by omega)));have HY:=h_ (H2.out (by omega));go_wp2_with fail;go_ret
   exact ⟨by rw [HX.out,HY.out];rfl,rfl⟩
theorem num_pre {l:LB_}:numK l<=l.length\/l=[]:=by
 cases l with
 | nil=>exact .inr rfl
 | cons c r=>left;unfold numK;simp only [List.tail_cons,List.length_cons];have:=takeWhile_len digitB r;omega
theorem num_at (l:LB_) (i:Nat) (h0:1<=i) (hi:i<=numK l) (h:i < l.length):digitB l[i]=decide (i < numK l):=by
 cases l with
 | nil=>exact absurd h (Nat.not_lt_zero _)
 | cons c r=>
  obtain ⟨k,rfl⟩:∃ k,i=k+1:=⟨i - 1,by omega⟩;unfold numK at hi ⊢
  simp only [List.tail_cons] at hi ⊢
  have h2:=takeWhile_at digitB r k (by omega) (by simpa using h)
  simp only [List.getElem_cons_succ,h2]
  congr 1
  rw [eq_iff_iff];omega
theorem numV_some {s:ByteArray} {t:T} (h:numV s.data.toList=some t):parseV s=t/\parseE s=0/\t.kind=2:=by
 unfold numV at h;rw [show bs s.data.toList=s from rfl] at h
 cases hp:parseT s with
 | none=>rw [hp] at h;cases h
 | some u=>
  rw [hp] at h
  simp only at h
  split at h
  ·injection h with h;subst h;exact ⟨(parse_is hp).1,(parse_is hp).2,by assumption⟩
  ·cases h
theorem numV_none {s:ByteArray} (h:numV s.data.toList=none):(parseE s≠0/\numE s.data.toList=parseE s)\/(parseE s=0/\(parseV s).kind≠2/\numE s.data.toList=20):=by
 unfold numV at h;unfold numE;rw [show bs s.data.toList=s from rfl] at h ⊢
 cases hp:parseT s with
 | none=>exact .inl ⟨by rw [(parse_over hp).2];decide,by rw [(parse_over hp).2];rfl⟩
 | some u=>
  rw [hp] at h
  simp only at h
  split at h
  ·cases h
  ·exact .inr ⟨(parse_is hp).2,by rw [(parse_is hp).1];assumption,rfl⟩
theorem tnumberP (gc:Nat) (r:Rd) (w:World) (h:RdAt w gc r) (hl:r.s.length<=1000000) (hne:r.s≠[]) (hv:ScalV w):Calls Tryz.prog 106 #[.pointer (some ⟨gc,0,none⟩)] w
  (match numV (r.s.take (numK r.s)) with | some t=>ExPost gc (Ex.lit t) (r.go (r.s.drop (numK r.s))) w | none=>ExPost gc Ex.zero (r.fail (numE (r.s.take (numK r.s)))) w):=by
 obtain ⟨rs,d,b⟩:=r;obtain ⟨s,hs,hblk⟩:=h.open
 simp only at hs hblk hl hne ⊢
 subst hs
 have hK0:1<=numK s.data.toList:=by unfold numK;omega
 have hK:numK s.data.toList<=s.size:=by rw [size_list];exact (num_pre).resolve_right hne
 rw [<-size_list] at hl;have hgc:=Blk.lt h;have hb0:Below w.heap.size w (w.alloc (.cells #[.int .i64 0,.int .i64 0,.bool false,.int .i64 0,.string ⟨#[]⟩,.slice none 0 0,.slice none 0 0,.string ⟨#[]⟩,.slice none 0 0,.slice none 0 0] 50)):=Below.new _ _;have H:=h_ (hblk.keep hb0);have HX:=h_ (show Blk (w.alloc (.cells #[.int .i64 0,.int .i64 0,.bool false,.int .i64 0,.string ⟨#[]⟩,.slice none 0 0,.slice none 0 0,.string ⟨#[]⟩,.slice none 0 0,.slice none 0 0] 50)) w.heap.size 50 #[.int .i64 0,.int .i64 0,.bool false,.int .i64 0,.string ⟨#[]⟩,.slice none 0 0,.slice none 0 0,.string ⟨#[]⟩,.slice none 0 0,.slice none 0 0] from Blk.new _ _ _);have HV:=h_ (hv.keep hb0);have HB0:=h_ (Bar.of (gc:=gc) hb0);clear h hv hblk;obtain ⟨K,hKe⟩:∃ z,z=numK s.data.toList:=⟨_,rfl⟩;obtain ⟨v,hve⟩:∃ z,z=s.extract 0 K:=⟨_,rfl⟩
 have hv1:v.data.toList=s.data.toList.take K:=by rw [hve,ext_take]
 rw [<-hKe,<-hv1];rw [<-hKe] at hK hK0;have HKE:=h_ hKe;have HVE:=h_ hve
 have hvz:v.size<=s.size:=by rw [size_list,hv1,List.length_take,size_list];omega
 clear hKe hve hv1;obtain ⟨W0,e0⟩:∃ z,z=w.alloc (.cells #[.int .i64 0,.int .i64 0,.bool false,.int .i64 0,.string ⟨#[]⟩,.slice none 0 0,.slice none 0 0,.string ⟨#[]⟩,.slice none 0 0,.slice none 0 0] 50):=⟨_,rfl⟩;obtain ⟨n2,e2⟩:∃ z,z=w.heap.size:=⟨_,rfl⟩;rw [<-e0] at H HX HV HB0;rw [<-e2] at HX;have E0:=h_ e0;have E2:=h_ e2;clear e0 e2 hb0;obtain ⟨PP,hPP⟩:∃ P:Ending->World->Prop,P=(match numV v.data.toList with | some t=>ExPost gc (Ex.lit t) ((⟨s.data.toList,d,b⟩:Rd).go (s.data.toList.drop K)) w | none=>ExPost gc Ex.zero ((⟨s.data.toList,d,b⟩:Rd).fail (numE v.data.toList)) w):=⟨_,rfl⟩;rw [<-hPP];have HPP:=h_ hPP;clear hPP
 go_enter Tryz.func106,Tryz.ntmps106
 refine wp_seq_cut (fun K0 hK0=>?_)
 go_wp2_with fail
 refine hK0.out _ _ ?_
 rw [<-E0.out,<-E2.out];clear E0 hK0 K0;have k0:=H.out.cell;have f0:=H.out.frozen;have l0:=H.out.lt
 refine wp_seq_cut (fun K0 hK0=>?_)
 go_wp2_with fail
 refine hK0.out _ _ ?_
 clear hK0 K0
 refine wp_seq_cut (fun K1 hK1=>?_)
 go_cut [3] (fun x3 wx=>x3=.int .i64 K/\W0=wx)
 case first=>
  go_wp2_with fail
  go_loop [3] (fun x3=>∃ q:Nat,1<=q/\q<=K/\x3=.int .i64 q) (fun x3=>K - (Lib.intOf x3).toNat)
  case atStart=>exact ⟨1,Nat.le_refl _,hK0,rfl⟩
  case round=>
   obtain ⟨q,hq0,hq,rfl⟩:=hrel
   by_cases hlt:q < s.size
   ·have hlt2:(q:Int) < s.size:=by omega
    have h256:=UInt8.toNat_lt s[q];have ha:=num_at s.data.toList q hq0 (by rw [<-HKE.out];exact hq) (by rw [<-size_list];exact hlt);rw [<-byte_at hlt,<-HKE.out] at ha
    by_cases h1:48<=s[q].toNat
    ·by_cases h2:s[q].toNat<=57
     ·have hd:digitB s[q]=true:=decide_eq_true ⟨h1,h2⟩
      rw [hd] at ha;have hqk:q < K:=of_decide_eq_true ha.symm
      have g1:(48:Int)<=s[q].toNat:=by omega
      have g2:(s[q].toNat:Int)<=57:=by omega
      clear ha hd h1 h2;go_wp2_with fail
      go_round
      case rel=>exact ⟨q+1,by omega,by omega,by go_num⟩
      case measure=>simp [Lib.intOf];omega
     ·have hd:digitB s[q]=false:=decide_eq_false (fun h=>h2 h.2)
      rw [hd] at ha;have hqk:¬ q < K:=of_decide_eq_false ha.symm
      obtain rfl:q=K:=by omega
      have g1:(48:Int)<=s[q].toNat:=by omega
      have g2:¬ (s[q].toNat:Int)<=57:=by omega
      clear ha hd h1 h2;go_wp2_with fail
      go_meet
      case rel=>exact ⟨rfl,rfl⟩
    ·have hd:digitB s[q]=false:=decide_eq_false (fun h=>h1 h.1)
     rw [hd] at ha;have hqk:¬ q < K:=of_decide_eq_false ha.symm
     obtain rfl:q=K:=by omega
     have g1:¬ (48:Int)<=s[q].toNat:=by omega
     clear ha hd h1;go_wp2_with fail
     go_meet
     case rel=>exact ⟨rfl,rfl⟩
   ·obtain rfl:q=K:=by omega
    go_wp2_with fail
    go_meet
    case rel=>exact ⟨rfl,rfl⟩
 case rest=>
 obtain ⟨rfl,rfl⟩:=hcut
 refine hK1.out _ _ ?_
 clear hK1 K1
  -- its value
 have hK2:(K:Int)<=s.size:=by omega
 have hK3:(0:Int)<=(K:Int):=by omega
 go_wp2_with fail;rw [<-HVE.out]
 refine (tparse v (by omega) W0 HV.out).mono ?_
 rintro e w1 ⟨pv,rfl,hpv,hb1⟩;obtain ⟨la,lc,ma,mc,rfl, -⟩:=(hpv w1 (fun _=>False)).inv;have HPV:=h_ hpv;have hb2:=hb1.alloc hb1.size (.cells #[.int .i64 (parseV v).kind,.bool (parseV v).bool,.int .i64 (parseV v).int,.string (parseV v).str,.slice la (parseV v).list.length lc,.slice ma (parseV v).map.length mc] 41);have HB1:=h_ hb2;have HPB:=h_ (show Blk (w1.alloc (.cells #[.int .i64 (parseV v).kind,.bool (parseV v).bool,.int .i64 (parseV v).int,.string (parseV v).str,.slice la (parseV v).list.length lc,.slice ma (parseV v).map.length mc] 41)) w1.heap.size 41 #[.int .i64 (parseV v).kind,.bool (parseV v).bool,.int .i64 (parseV v).int,.string (parseV v).str,.slice la (parseV v).list.length lc,.slice ma (parseV v).map.length mc] from Blk.new _ _ _);have H1:=h_ (H.out.keep hb2);have HX1:=h_ (HX.out.keep hb2);have HN1:=h_ hb1.size;clear hpv hb1 hb2 k0 f0 l0;go_upto_region 5 with fail;obtain ⟨W1,e1⟩:∃ z,z=w1.alloc (.cells #[.int .i64 (parseV v).kind,.bool (parseV v).bool,.int .i64 (parseV v).int,.string (parseV v).str,.slice la (parseV v).list.length lc,.slice ma (parseV v).map.length mc] 41):=⟨_,rfl⟩;obtain ⟨n4,e4⟩:∃ z,z=w1.heap.size:=⟨_,rfl⟩;rw [<-e1] at HB1 HPB H1 HX1;rw [<-e4] at HPB HN1;rw [<-e1,<-e4]
 have hn42:n4≠n2:=by have h1:=HX.out.lt;have h2:=HN1.out;omega
 have hn4g:n4≠gc:=by have h1:=H.out.lt;have h2:=HN1.out;omega
 have hn2g:n2≠gc:=by rw [E2.out];omega
 clear e1 e4;obtain ⟨ev,hev⟩:∃ z,z=parseE v:=⟨_,rfl⟩;obtain ⟨pv,hpv⟩:∃ z,z=parseV v:=⟨_,rfl⟩;rw [<-hpv] at HPV HPB;rw [<-hev,<-hpv];have k0:=H1.out.cell;have f0:=H1.out.frozen;have l0:=H1.out.lt;have k4:=HPB.out.cell;have l4:=HPB.out.lt;have k2:=HX1.out.cell;have f2:=HX1.out.frozen;have l2:=HX1.out.lt
 cases hnv:numV v.data.toList with
 | some t=>
  obtain ⟨h1,h2,h3⟩:=numV_some hnv;rw [<-hpv] at h1;rw [<-hev] at h2;subst h1 h2
  have g1:(pv.kind !=2)=false:=by rw [h3];rfl
  have HNV:=h_ hnv;clear hnv hpv hev h3;go_wp2_with fail
  refine ret_cell (p:=2) (g:=n2) rfl rfl (blk_set10 (w:=W1.setCell ⟨gc,0,none⟩ (.string (s.extract K s.size))) (HX1.out.far (p:=⟨gc,0,none⟩) hn2g _)) Tryz.underlying50 (by kernel_rfl) rfl ?_
  rw [HPP.out,HNV.out]
  exact ⟨_,rfl,RepO.leaf (repX_lit (HPV.out _ _)) rfl rfl,RdAt.bar (RdAt.of (H1.out.s0 _) (ext_drop s) rfl rfl) (bar_set10 _ _ _ _ _ _ _ _ _ _ _ _) (Ne.symm hn2g),Bar.join (((HB0.out.trans (Bar.of HB1.out)).trans (Bar.set gc 0 _))) (bar_set10 _ _ _ _ _ _ _ _ _ _ _ _) (Nat.le_of_eq E2.out.symm)⟩
 | none=>
  rcases numV_none hnv with ⟨h1,h2⟩ | ⟨h1,h2,h3⟩
  ·rw [<-hev] at h1 h2
   have g1:(ev !=0)=true:=bne_iff_ne.2 h1;have HOR:=h_ (show orI ev 20=numE v.data.toList from by rw [h2];exact if_pos h1);have HNV:=h_ hnv;clear hnv hpv hev h1 h2;go_wp2_with fail
   refine (cmp_orE (g:=W1.heap.size) _ (Blk.new W1 _ _)).mono ?_
   rintro e w5 ⟨rfl,rfl⟩;rw [HOR.out];have H5:=h_ (H1.out.alloc (.cells #[.int .i64 ev,.int .i64 20] 31));have HX5:=h_ (HX1.out.alloc (.cells #[.int .i64 ev,.int .i64 20] 31));have HB5:=h_ ((HB0.out.trans (Bar.of HB1.out)).trans (Bar.of (Below.new W1 (.cells #[.int .i64 ev,.int .i64 20] 31))));clear k0 f0 l0 k4 l4 k2 f2 l2;go_wp2_with fail
   refine (tfail gc ⟨s.data.toList,d,b⟩ (numE v.data.toList) _ (RdAt.of H5.out rfl rfl rfl)).mono ?_
   rintro e w6 ⟨rfl,hrd,hbar⟩;have HX6:=h_ (hbar.blk HX5.out hn2g);have HR6:=h_ hrd;have HB6:=h_ (HB5.out.trans hbar);clear hrd hbar;have k2:=HX6.out.cell;have f2:=HX6.out.frozen;have l2:=HX6.out.lt;go_wp2_with fail
   refine ret_cell (p:=2) (g:=n2) rfl rfl (blk_set10 (w:=w6) HX6.out) Tryz.underlying50 (by kernel_rfl) rfl ?_
   rw [HPP.out,HNV.out]
   exact ⟨_,rfl,repO_zero,HR6.out.bar (bar_set10 _ _ _ _ _ _ _ _ _ _ _ _) (Ne.symm hn2g),Bar.join HB6.out (bar_set10 _ _ _ _ _ _ _ _ _ _ _ _) (Nat.le_of_eq E2.out.symm)⟩
  ·rw [<-hev] at h1
   rw [<-hpv] at h2;subst h1;have g2:(pv.kind !=2)=true:=bne_iff_ne.2 h2;have HOR:=h_ (show orI 0 20=numE v.data.toList from by rw [h3];rfl);have HNV:=h_ hnv;clear hnv hpv hev h2 h3;go_wp2_with fail
   refine (cmp_orE (g:=W1.heap.size) _ (Blk.new W1 _ _)).mono ?_
   rintro e w5 ⟨rfl,rfl⟩;rw [HOR.out];have H5:=h_ (H1.out.alloc (.cells #[.int .i64 0,.int .i64 20] 31));have HX5:=h_ (HX1.out.alloc (.cells #[.int .i64 0,.int .i64 20] 31));have HB5:=h_ ((HB0.out.trans (Bar.of HB1.out)).trans (Bar.of (Below.new W1 (.cells #[.int .i64 0,.int .i64 20] 31))));clear k0 f0 l0 k4 l4 k2 f2 l2;go_wp2_with fail
   refine (tfail gc ⟨s.data.toList,d,b⟩ (numE v.data.toList) _ (RdAt.of H5.out rfl rfl rfl)).mono ?_
   rintro e w6 ⟨rfl,hrd,hbar⟩;have HX6:=h_ (hbar.blk HX5.out hn2g);have HR6:=h_ hrd;have HB6:=h_ (HB5.out.trans hbar);clear hrd hbar;have k2:=HX6.out.cell;have f2:=HX6.out.frozen;have l2:=HX6.out.lt;go_wp2_with fail
   refine ret_cell (p:=2) (g:=n2) rfl rfl (blk_set10 (w:=w6) HX6.out) Tryz.underlying50 (by kernel_rfl) rfl ?_
   rw [HPP.out,HNV.out]
   exact ⟨_,rfl,repO_zero,HR6.out.bar (bar_set10 _ _ _ _ _ _ _ _ _ _ _ _) (Ne.symm hn2g),Bar.join HB6.out (bar_set10 _ _ _ _ _ _ _ _ _ _ _ _) (Nat.le_of_eq E2.out.symm)⟩
end Go.Proofs.YtnblmhfgmehnnaaGreatDoor
namespace Go.Proofs.YtnblmhfgmehnnaaGreatDoor
open Go.RowKit
attribute [local go_sem ↓] Go.wp_at_zero Go.wp_at_succ
theorem dbl_34 (r:LB_):dblL (34::r)=some ([],r):=by rw [dblL]
theorem dbl_end:dblL [92]=none:=by rw [dblL]
theorem dbl_n (r:LB_):dblL (92::110::r)=(dblL r).map (fun p=>(10::p.1,p.2)):=by rw [dblL,if_pos rfl]
theorem dbl_t (r:LB_):dblL (92::116::r)=(dblL r).map (fun p=>(9::p.1,p.2)):=by rw [dblL,if_neg (by decide),if_pos rfl]
theorem dbl_q {c:UInt8} (h:c=34\/c=92) (r:LB_):dblL (92::c::r)=(dblL r).map (fun p=>(c::p.1,p.2)):=by
 rw [dblL,if_neg (by rintro rfl;simp at h),if_neg (by rintro rfl;simp at h),if_pos h]
theorem dbl_x {c:UInt8} (h1:c≠110) (h2:c≠116) (h3:¬ (c=34\/c=92)) (r:LB_):dblL (92::c::r)=none:=by
 rw [dblL,if_neg h1,if_neg h2,if_neg h3]
theorem dbl_bad {c:UInt8} (h:c=10\/c=9) (r:LB_):dblL (c::r)=none:=by
 rcases h with rfl | rfl <;>rw [dblL]
theorem dbl_else {c:UInt8} (h1:c≠34) (h2:c≠92) (h3:¬ (c=10\/c=9)) (r:LB_):dblL (c::r)=(dblL r).map (fun p=>(c::p.1,p.2)):=by
 rw [not_or] at h3;rw [dblL]
 all_goals simp_all
def grow2 (l:LB_) (o:Option (LB_ × LB_)):Option (LB_ × LB_):=o.map (fun p=>(l++p.1,p.2))
theorem grow2_step (l:LB_) (c:UInt8) (o:Option (LB_ × LB_)):grow2 l (o.map (fun p=>(c::p.1,p.2)))=grow2 (l++[c]) o:=by cases o <;>simp [grow2]
def UnqIs (o:Option (LB_ × LB_)) (v1 v2:ByteArray) (ec:Int):Prop:=(∃ c d,o=some (c,d)/\v1.data.toList=c/\v2.data.toList=d/\ec=0)\/(o=none/\v1=⟨#[]⟩/\v2=⟨#[]⟩/\ec=11)
def UnqPost (w:World) (o:Option (LB_ × LB_)) (e:Ending) (w':World):Prop:=∃ v1 v2 ec,e=.returned (.tuple #[.string v1,.string v2,.int .i64 ec])/\UnqIs o v1 v2 ec/\Below w.heap.size w w'
theorem u8_ne {a:UInt8} {n:Nat} (hn:n < 256) (h:a≠UInt8.ofNat n):((a.toNat:Int)==(n:Int))=false:=by rw [u8_eq hn,beq_eq_false_iff_ne];exact h
theorem tdouble (s:ByteArray) (h1:1<=s.size) (hs:s.size<=10000000) (w:World):Calls Tryz.prog 111 #[.string s] w (UnqPost w (dblL (s.data.toList.drop 1))):=by
 have H0:=h_ (Bld.new w);have B0:=h_ (Below.new w (.cells #[.pointer none,.slice none 0 0] 89))
 generalize hO:dblL (s.data.toList.drop 1)=o
 have HO:=h_ hO;clear hO
 go_enter Tryz.func111,Tryz.ntmps111
 go_wp2_with fail
 go_loopw [6] (fun x6 wr=>∃ (q:Nat) (l:LB_),x6=.int .i64 q/\1<=q/\q<=s.size/\Hid (l.length<=q)/\Hid (grow2 l (dblL (s.data.toList.drop q))=o)/\Hid (Bld w.heap.size l wr)/\Hid (Below w.heap.size w wr)) (fun x6 _=>s.size - (intOf x6).toNat)
 case atStart=>exact ⟨1,[],rfl,Nat.le_refl _,h1,h_ (by simp),h_ (by rw [HO.out];cases o <;>simp [grow2]),H0,B0⟩
 case round=>
  obtain ⟨q,l,rfl,hq1,hq,hll,HG,HR,HW⟩:=hrel;have hwb:=h_ HW.out.size
  by_cases hlt:q < s.size
  case neg=>
   have hq2:¬ (q:Int) < s.size:=by omega
   have HE:=h_ (show o=none by rw [<-HG.out,drop_end (by omega)];simp [dblL,grow2]);clear hlt;go_wp2_with fail
   refine bodyPost_ret (v:=.tuple #[.string ⟨#[]⟩,.string ⟨#[]⟩,.int .i64 11]) (by simp [results,Tryz.results111,go_sem]) rfl ?_
   exact ⟨_,_,_,rfl,.inr ⟨HE.out,rfl,rfl,rfl⟩,HW.out⟩
  have hq2:(q:Int) < s.size:=by omega
  have h256:=UInt8.toNat_lt s[q];have HD:=h_ (byte_list hlt)
  by_cases c34:s[q]=34
  ·have d34:((s[q].toNat:Int)==34)=true:=by rw [c34];rfl
   have HE:=h_ (show o=some (l,s.data.toList.drop (q+1)) by rw [<-HG.out,HD.out,c34,dbl_34];simp [grow2]);have CS:=h_ (bstr_drew HR.out hwb.out);clear c34
   have hq3:(q:Int)+1<=s.size:=by omega
   have hwr:IntKind.i64.wrap ((q:Int)+1)=(q:Int)+1:=wrap_fit (by omega) (by omega);go_wp2_with fail
   go_region_with (go_at_call 44;refine CS.out.mono ?_;rintro e w3 ⟨rfl,hb3⟩)
   all_goals
    go_wp2_with fail
    refine bodyPost_ret (v:=.tuple #[.string ⟨l.toArray⟩,.string (s.extract (q+1) s.size),.int .i64 0]) (by simp [results,Tryz.results111,go_sem,Act.put]) rfl ?_
    exact ⟨_,_,_,rfl,.inl ⟨_,_,HE.out,rfl,tail_list,rfl⟩,HW.out.trans hb3⟩
  have d34:((s[q].toNat:Int)==34)=false:=u8_ne (n:=34) (by decide) c34
  by_cases c92:s[q]=92
  ·have d92:((s[q].toNat:Int)==92)=true:=by rw [c92];rfl
   have hwr:IntKind.i64.wrap ((q:Int)+1)=(q:Int)+1:=wrap_fit (by omega) (by omega)
   by_cases hlt2:q+1 < s.size
   case neg=>
    have hq3:((q:Int)+1==(s.size:Int))=true:=by rw [beq_iff_eq];omega
    have HE:=h_ (show o=none by rw [<-HG.out,HD.out,c92,drop_end (by omega),dbl_end];rfl);clear c92 hlt2 c34;go_wp2_with fail
    refine bodyPost_ret (v:=.tuple #[.string ⟨#[]⟩,.string ⟨#[]⟩,.int .i64 11]) (by simp [results,Tryz.results111,go_sem]) rfl ?_
    exact ⟨_,_,_,rfl,.inr ⟨HE.out,rfl,rfl,rfl⟩,HW.out⟩
   have hq3:((q:Int)+1==(s.size:Int))=false:=by rw [beq_eq_false_iff_ne];omega
   have hq4:(q:Int)+1 < s.size:=by omega
   have h257:=UInt8.toNat_lt s[q+1];have HD2:=h_ (byte_list hlt2);have HE:=h_ (show grow2 l (dblL (92::s[q+1]::s.data.toList.drop (q+2)))=o by rw [<-HG.out,HD.out,c92,HD2.out]);clear c92 c34 HD HD2 HG
   by_cases c110:s[q+1]=110
   ·have d110:((s[q+1].toNat:Int)==110)=true:=by rw [c110];rfl
    have HN:=h_ (show grow2 (l++[10]) (dblL (s.data.toList.drop (q+2)))=o by rw [<-HE.out,c110,dbl_n,grow2_step]);clear c110 HE;go_wp2_with fail
    refine (wbyte (c:=10) HR.out (by have:=hll.out;omega) hwb.out rfl).mono ?_
    rintro e w3 ⟨rfl,hB3,hb3⟩;go_wp2_with fail
    go_round
    case rel=>exact ⟨q+2,l++[10],by go_num,by omega,by omega,h_ (by have:=hll.out;rw [List.length_append];simp only [List.length_cons,List.length_nil];omega),HN,h_ hB3,h_ (HW.out.trans hb3)⟩
    case measure=>simp [intOf];omega
   have d110:((s[q+1].toNat:Int)==110)=false:=u8_ne (n:=110) (by decide) c110
   by_cases c116:s[q+1]=116
   ·have d116:((s[q+1].toNat:Int)==116)=true:=by rw [c116];rfl
    have HN:=h_ (show grow2 (l++[9]) (dblL (s.data.toList.drop (q+2)))=o by rw [<-HE.out,c116,dbl_t,grow2_step]);clear c116 c110 HE;go_wp2_with fail
    refine (wbyte (c:=9) HR.out (by have:=hll.out;omega) hwb.out rfl).mono ?_
    rintro e w3 ⟨rfl,hB3,hb3⟩;go_wp2_with fail
    go_round
    case rel=>exact ⟨q+2,l++[9],by go_num,by omega,by omega,h_ (by have:=hll.out;rw [List.length_append];simp only [List.length_cons,List.length_nil];omega),HN,h_ hB3,h_ (HW.out.trans hb3)⟩
    case measure=>simp [intOf];omega
   have d116:((s[q+1].toNat:Int)==116)=false:=u8_ne (n:=116) (by decide) c116
   by_cases cq:s[q+1]=34\/s[q+1]=92
   ·have HN:=h_ (show grow2 (l++[s[q+1]]) (dblL (s.data.toList.drop (q+2)))=o by rw [<-HE.out,dbl_q cq,grow2_step])
    have hor:((s[q+1].toNat:Int)==34)=true\/(((s[q+1].toNat:Int)==34)=false/\((s[q+1].toNat:Int)==92)=true):=by
     rcases cq with cq | cq
     ·left;rw [cq];rfl
     ·right;rw [cq];exact ⟨rfl,rfl⟩
    clear cq c116 c110 HE
    rcases hor with f34 | ⟨f34,f92⟩
    all_goals
     go_wp2_with fail
     refine (wbyte (c:=s[q+1]) HR.out (by have:=hll.out;omega) hwb.out rfl).mono ?_
     rintro e w3 ⟨rfl,hB3,hb3⟩;go_wp2_with fail
     go_round
     case rel=>exact ⟨q+2,l++[s[q+1]],by go_num,by omega,by omega,h_ (by have:=hll.out;rw [List.length_append];simp only [List.length_cons,List.length_nil];omega),HN,h_ hB3,h_ (HW.out.trans hb3)⟩
     case measure=>simp [intOf];omega
   ·have HN:=h_ (show o=none by rw [<-HE.out,dbl_x c110 c116 cq];rfl)
    have f34:((s[q+1].toNat:Int)==34)=false:=u8_ne (n:=34) (by decide) (fun h=>cq (.inl h));have f92:((s[q+1].toNat:Int)==92)=false:=u8_ne (n:=92) (by decide) (fun h=>cq (.inr h));clear cq c116 c110 HE;go_wp2_with fail
    refine bodyPost_ret (v:=.tuple #[.string ⟨#[]⟩,.string ⟨#[]⟩,.int .i64 11]) (by simp [results,Tryz.results111,go_sem]) rfl ?_
    exact ⟨_,_,_,rfl,.inr ⟨HN.out,rfl,rfl,rfl⟩,HW.out⟩
  have d92:((s[q].toNat:Int)==92)=false:=u8_ne (n:=92) (by decide) c92
  by_cases cb:s[q]=10\/s[q]=9
  ·have HN:=h_ (show o=none by rw [<-HG.out,HD.out,dbl_bad cb];rfl)
   have hor:((s[q].toNat:Int)==10)=true\/(((s[q].toNat:Int)==10)=false/\((s[q].toNat:Int)==9)=true):=by
    rcases cb with cq | cq
    ·left;rw [cq];rfl
    ·right;rw [cq];exact ⟨rfl,rfl⟩
   clear cb c34 c92
   rcases hor with f10 | ⟨f10,f9⟩
   all_goals
    go_wp2_with fail
    refine bodyPost_ret (v:=.tuple #[.string ⟨#[]⟩,.string ⟨#[]⟩,.int .i64 11]) (by simp [results,Tryz.results111,go_sem]) rfl ?_
    exact ⟨_,_,_,rfl,.inr ⟨HN.out,rfl,rfl,rfl⟩,HW.out⟩
  ·have HN:=h_ (show grow2 (l++[s[q]]) (dblL (s.data.toList.drop (q+1)))=o by rw [<-HG.out,HD.out,dbl_else c34 c92 cb,grow2_step])
   have f10:((s[q].toNat:Int)==10)=false:=u8_ne (n:=10) (by decide) (fun h=>cb (.inl h));have f9:((s[q].toNat:Int)==9)=false:=u8_ne (n:=9) (by decide) (fun h=>cb (.inr h));clear cb c34 c92;go_wp2_with fail
   refine (wbyte (c:=s[q]) HR.out (by have:=hll.out;omega) hwb.out rfl).mono ?_
   rintro e w3 ⟨rfl,hB3,hb3⟩;go_wp2_with fail
   go_round
   case rel=>exact ⟨q+1,l++[s[q]],by go_num,by omega,by omega,h_ (by have:=hll.out;rw [List.length_append];simp only [List.length_cons,List.length_nil];omega),HN,h_ hB3,h_ (HW.out.trans hb3)⟩
   case measure=>simp [intOf];omega
theorem sgl_2 (r:LB_):sglL (39::39::r)=(sglL r).map (fun p=>(39::p.1,p.2)):=by rw [sglL]
theorem sgl_1 {r:LB_} (h:r.head? ≠some 39):sglL (39::r)=some ([],r):=by
 cases r with
 | nil=>rw [sglL];simp
 | cons c r=>
  have:c≠39:=fun e=>h (by rw [e];rfl)
  rw [sglL];simp;exact this
theorem sgl_else {c:UInt8} (h:c≠39) (r:LB_):sglL (c::r)=(sglL r).map (fun p=>(c::p.1,p.2)):=by
 rw [sglL]
 all_goals simp_all
theorem tsingle (s:ByteArray) (h1:1<=s.size) (hs:s.size<=10000000) (w:World):Calls Tryz.prog 112 #[.string s] w (UnqPost w (sglL (s.data.toList.drop 1))):=by
 have H0:=h_ (Bld.new w);have B0:=h_ (Below.new w (.cells #[.pointer none,.slice none 0 0] 89))
 generalize hO:sglL (s.data.toList.drop 1)=o
 have HO:=h_ hO;clear hO
 go_enter Tryz.func112,Tryz.ntmps112
 go_wp2_with fail
 go_loopw [6] (fun x6 wr=>∃ (q:Nat) (l:LB_),x6=.int .i64 q/\1<=q/\q<=s.size/\Hid (l.length<=q)/\Hid (grow2 l (sglL (s.data.toList.drop q))=o)/\Hid (Bld w.heap.size l wr)/\Hid (Below w.heap.size w wr)) (fun x6 _=>s.size - (intOf x6).toNat)
 case atStart=>exact ⟨1,[],rfl,Nat.le_refl _,h1,h_ (by simp),h_ (by rw [HO.out];cases o <;>simp [grow2]),H0,B0⟩
 case round=>
  obtain ⟨q,l,rfl,hq1,hq,hll,HG,HR,HW⟩:=hrel;have hwb:=h_ HW.out.size
  by_cases hlt:q < s.size
  case neg=>
   have hq2:¬ (q:Int) < s.size:=by omega
   have HE:=h_ (show o=none by rw [<-HG.out,drop_end (by omega)];simp [sglL,grow2]);clear hlt;go_wp2_with fail
   refine bodyPost_ret (v:=.tuple #[.string ⟨#[]⟩,.string ⟨#[]⟩,.int .i64 11]) (by simp [results,Tryz.results112,go_sem]) rfl ?_
   exact ⟨_,_,_,rfl,.inr ⟨HE.out,rfl,rfl,rfl⟩,HW.out⟩
  have hq2:(q:Int) < s.size:=by omega
  have h256:=UInt8.toNat_lt s[q];have HD:=h_ (byte_list hlt)
  by_cases c39:s[q]=39
  case neg=>
   have d39:((s[q].toNat:Int)==39)=false:=u8_ne (n:=39) (by decide) c39
   have d39':((s[q].toNat:Int) !=39)=true:=by rw [bne,d39];rfl
   have HN:=h_ (show grow2 (l++[s[q]]) (sglL (s.data.toList.drop (q+1)))=o by rw [<-HG.out,HD.out,sgl_else c39,grow2_step]);clear c39;go_wp2_with fail
   refine (wbyte (c:=s[q]) HR.out (by have:=hll.out;omega) hwb.out rfl).mono ?_
   rintro e w3 ⟨rfl,hB3,hb3⟩;go_wp2_with fail
   go_round
   case rel=>exact ⟨q+1,l++[s[q]],by go_num,by omega,by omega,h_ (by have:=hll.out;rw [List.length_append];simp only [List.length_cons,List.length_nil];omega),HN,h_ hB3,h_ (HW.out.trans hb3)⟩
   case measure=>simp [intOf];omega
  have d39:((s[q].toNat:Int)==39)=true:=by rw [c39];rfl
  have d39':((s[q].toNat:Int) !=39)=false:=by rw [bne,d39];rfl
  have hwr:IntKind.i64.wrap ((q:Int)+1)=(q:Int)+1:=wrap_fit (by omega) (by omega);have CS:=h_ (bstr_drew HR.out hwb.out)
  have hq3:(q:Int)+1<=s.size:=by omega
  have HG2:=h_ (show grow2 l (sglL (39::s.data.toList.drop (q+1)))=o by rw [<-HG.out,HD.out,c39]);clear c39 HD HG
  by_cases hlt2:q+1 < s.size
  case neg=>
   have hq4:((q:Int)+1==(s.size:Int))=true:=by rw [beq_iff_eq];omega
   have HE:=h_ (show o=some (l,s.data.toList.drop (q+1)) by rw [<-HG2.out,sgl_1 (by rw [drop_end (by omega)];simp)];simp [grow2]);clear hlt2;go_wp2_with fail
   go_region_with (go_at_call 44;refine CS.out.mono ?_;rintro e w3 ⟨rfl,hb3⟩)
   all_goals
    go_wp2_with fail
    refine bodyPost_ret (v:=.tuple #[.string ⟨l.toArray⟩,.string (s.extract (q+1) s.size),.int .i64 0]) (by simp [results,Tryz.results112,go_sem,Act.put]) rfl ?_
    exact ⟨_,_,_,rfl,.inl ⟨_,_,HE.out,rfl,tail_list,rfl⟩,HW.out.trans hb3⟩
  have hq4:((q:Int)+1==(s.size:Int))=false:=by rw [beq_eq_false_iff_ne];omega
  have hq5:(q:Int)+1 < s.size:=by omega
  have h257:=UInt8.toNat_lt s[q+1];have HD2:=h_ (byte_list hlt2)
  by_cases e39:s[q+1]=39
  ·have f39:((s[q+1].toNat:Int)==39)=true:=by rw [e39];rfl
   have f39':((s[q+1].toNat:Int) !=39)=false:=by rw [bne,f39];rfl
   have HN:=h_ (show grow2 (l++[39]) (sglL (s.data.toList.drop (q+2)))=o by rw [<-HG2.out,HD2.out,e39,sgl_2,grow2_step]);clear e39;go_wp2_with fail
   refine (wbyte (c:=39) HR.out (by have:=hll.out;omega) hwb.out rfl).mono ?_
   rintro e w3 ⟨rfl,hB3,hb3⟩;go_wp2_with fail
   go_round
   case rel=>exact ⟨q+2,l++[39],by go_num,by omega,by omega,h_ (by have:=hll.out;rw [List.length_append];simp only [List.length_cons,List.length_nil];omega),HN,h_ hB3,h_ (HW.out.trans hb3)⟩
   case measure=>simp [intOf];omega
  ·have f39:((s[q+1].toNat:Int)==39)=false:=u8_ne (n:=39) (by decide) e39
   have f39':((s[q+1].toNat:Int) !=39)=true:=by rw [bne,f39];rfl
   have HE:=h_ (show o=some (l,s.data.toList.drop (q+1)) by rw [<-HG2.out,sgl_1 (by rw [HD2.out];simpa using e39)];simp [grow2]);clear e39;go_wp2_with fail
   go_region_with (go_at_call 44;refine CS.out.mono ?_;rintro e w3 ⟨rfl,hb3⟩)
   all_goals
    go_wp2_with fail
    refine bodyPost_ret (v:=.tuple #[.string ⟨l.toArray⟩,.string (s.extract (q+1) s.size),.int .i64 0]) (by simp [results,Tryz.results112,go_sem,Act.put]) rfl ?_
    exact ⟨_,_,_,rfl,.inl ⟨_,_,HE.out,rfl,tail_list,rfl⟩,HW.out.trans hb3⟩
theorem unq_34 {s:ByteArray} (h1:1<=s.size) (h:s[0]=34):unqL s.data.toList=dblL (s.data.toList.drop 1):=by
 have:=byte_list (s:=s) (k:=0) (by omega)
 rw [List.drop_zero,h] at this;rw [this,unqL];rfl
theorem unq_39 {s:ByteArray} (h1:1<=s.size) (h:s[0]=39):unqL s.data.toList=sglL (s.data.toList.drop 1):=by
 have:=byte_list (s:=s) (k:=0) (by omega)
 rw [List.drop_zero,h] at this;rw [this,unqL];rfl
theorem unq_other {s:ByteArray} (h1:1<=s.size) (h:s[0]≠34) (h':s[0]≠39):unqL s.data.toList=none:=by
 have:=byte_list (s:=s) (k:=0) (by omega)
 rw [List.drop_zero] at this;rw [this];unfold unqL
 split
 ·next e=>injection e with e _;exact absurd e h
 ·next e=>injection e with e _;exact absurd e h'
 ·rfl
theorem tunquote (s:ByteArray) (hs:s.size<=10000000) (w:World):Calls Tryz.prog 104 #[.string s] w (UnqPost w (unqL s.data.toList)):=by
 have hnil:Hid (s.size=0->unqL s.data.toList=none):=fun h=>by
  have:s.data.toList=[]:=List.length_eq_zero_iff.1 (by rw [<-size_list];exact h)
  rw [this];rfl
 have hU:=h_ (⟨unq_34 (s:=s),unq_39 (s:=s),unq_other (s:=s)⟩:(∀ h1:1<=s.size,s[0]=34->_)/\(∀ h1:1<=s.size,s[0]=39->_)/\(∀ h1:1<=s.size,s[0]≠34->s[0]≠39->_))
 generalize hO:unqL s.data.toList=o at hnil hU ⊢
 clear hO
 by_cases h0:s.size=0
 ·have e0:s.toList.isEmpty=true:=by
   rw [ByteArray.toList_eq,List.isEmpty_iff]
   exact List.length_eq_zero_iff.1 (by rw [<-size_list];exact h0)
  have HN:=h_ (hnil.out h0);clear h0 hU
  go_enter Tryz.func104,Tryz.ntmps104
  go_wp2_with fail
  refine bodyPost_ret (v:=.tuple #[.string ⟨#[]⟩,.string ⟨#[]⟩,.int .i64 11]) (by simp [results,Tryz.results104,go_sem]) rfl ?_
  exact ⟨_,_,_,rfl,.inr ⟨HN.out,rfl,rfl,rfl⟩,Below.refl _ _⟩
 have h1:1<=s.size:=by omega
 have e0:s.toList.isEmpty=false:=by
  rw [Bool.eq_false_iff];intro e;rw [ByteArray.toList_eq,List.isEmpty_iff] at e;rw [size_list,e] at h1;simp at h1
 have hp:(0:Int) < s.size:=by omega
 obtain ⟨hU1,hU2,hU3⟩:=hU.out;have h256:=UInt8.toNat_lt s[0]
 by_cases c34:s[0]=34
 ·have d34:((s[0].toNat:Int)==34)=true:=by rw [c34];rfl
  have CD:=h_ (show Calls Tryz.prog 111 #[.string s] w (UnqPost w o) from hU1 h1 c34 ▸ tdouble s h1 hs w);clear c34 hU1 hU2 hU3 hU h0
  go_enter Tryz.func104,Tryz.ntmps104
  go_wp2_with fail
  refine CD.out.mono ?_
  rintro e w1 ⟨v1,v2,ec,rfl,hu,hb⟩;go_wp2_with fail
  refine bodyPost_ret (v:=.tuple #[.string v1,.string v2,.int .i64 ec]) (by simp [results,Tryz.results104,go_sem]) rfl ?_
  exact ⟨_,_,_,rfl,hu,hb⟩
 have d34:((s[0].toNat:Int)==34)=false:=u8_ne (n:=34) (by decide) c34
 by_cases c39:s[0]=39
 ·have d39:((s[0].toNat:Int)==39)=true:=by rw [c39];rfl
  have CD:=h_ (show Calls Tryz.prog 112 #[.string s] w (UnqPost w o) from hU2 h1 c39 ▸ tsingle s h1 hs w);clear c34 c39 hU1 hU2 hU3 hU h0
  go_enter Tryz.func104,Tryz.ntmps104
  go_wp2_with fail
  refine CD.out.mono ?_
  rintro e w1 ⟨v1,v2,ec,rfl,hu,hb⟩;go_wp2_with fail
  refine bodyPost_ret (v:=.tuple #[.string v1,.string v2,.int .i64 ec]) (by simp [results,Tryz.results104,go_sem]) rfl ?_
  exact ⟨_,_,_,rfl,hu,hb⟩
 have d39:((s[0].toNat:Int)==39)=false:=u8_ne (n:=39) (by decide) c39;have HN:=h_ (hU3 h1 c34 c39);clear c34 c39 hU1 hU2 hU3 hU h0
 go_enter Tryz.func104,Tryz.ntmps104
 go_wp2_with fail
 refine bodyPost_ret (v:=.tuple #[.string ⟨#[]⟩,.string ⟨#[]⟩,.int .i64 11]) (by simp [results,Tryz.results104,go_sem]) rfl ?_
 exact ⟨_,_,_,rfl,.inr ⟨HN.out,rfl,rfl,rfl⟩,Below.refl _ _⟩
end Go.Proofs.YtnblmhfgmehnnaaGreatDoor
