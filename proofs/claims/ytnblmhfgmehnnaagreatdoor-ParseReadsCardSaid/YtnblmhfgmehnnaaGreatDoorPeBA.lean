/- Several texts as one. -/
import Derived.Test.YtnblmhfgmehnnaaGreatDoorPeAZ
import Derived.Test.YtnblmhfgmehnnaaGreatDoorPeAC
import Derived.ProofKit
import Derived.LaidMore
import Derived.OpenShut
import Derived.Stop.Joined
import Derived.Test.YtnblmhfgmehnnaaGreatDoorPeAB
import Derived.ChangeSlices
set_option maxRecDepth 100000
set_option maxHeartbeats 1000000
namespace Go.Proofs.YtnblmhfgmehnnaaGreatDoor
open Go.ChangeShapes Go.WideShapes Go.ChangeAt Go.WideMaps Go.WideElems Go.RowKit
theorem star_err7: "*" ++ "errors.errorString" = "*errors.errorString" :=by decide
theorem row_err7 (u:TypeId) (h:Tryz.prog.typeName? 3 u=some "*errors.errorString"):u=178:=
 typeName_ptr_named (nm:= "errors.errorString") (by rw [star_err7];kernel_rfl) (by kernel_rfl) (by decide) u (by rw [star_err7];exact h)
theorem scal_seven {W:World} (h:laidMetH Tryz.prog Rows.parseWrongRow.laid W):ScalV W:=by
 rw [MakeChecks.laidMetH_plain _ _ _ (by kernel_rfl)] at h;have h1:laidMet Tryz.prog (("internal/strconv.uint64pow10",Lib.tabData .u64 Lib.pow10Tab)::("unicode/utf8.acceptRanges",Rows.laid_unicode_utf8_acceptRanges)::("strconv.ErrRange",Rows.laid_strconv_ErrRange)::("strconv.ErrSyntax",Rows.laid_strconv_ErrSyntax)::("unicode/utf8.first",Rows.laid_unicode_utf8_first)::[]) W:=laidMet.tail (laidMet.tail h);have h2:=h1.tail.tail;have ht:Lib.TabIs Tryz.prog W "internal/strconv.uint64pow10" .u64 Lib.pow10Tab:=Lib.tabIs_of_head (g:=5) (t:=188) (e:=122) (n:=20) (by kernel_rfl) (by kernel_rfl) (by kernel_rfl) (by kernel_rfl) (by kernel_rfl) (by kernel_rfl) h1;obtain ⟨a,s,hv, -⟩:=laid_sentinel (g:=4) (ti:=92) (tp:=178) (te:=180) (ts:=9) h2 (by kernel_rfl) (by kernel_rfl) Tryz.underlying92 row_err7 Tryz.underlying178 Tryz.underlying180 rfl rfl Tryz.underlying9 (by kernel_rfl) (by kernel_rfl)
 exact ⟨ht,_,_,hv⟩
theorem ex_fields:fieldsOf Tryz.prog 45=some [(3,0),(41,1),(9,7),(42,8),(43,9)]:=by kernel_rfl
theorem ex_cells:Tryz.prog.cellsOf 45=10:=by kernel_rfl
theorem exs_cells:Tryz.prog.cellsOf 43=1:=by kernel_rfl
theorem strs_cells:Tryz.prog.cellsOf 42=1:=by kernel_rfl
theorem ex_bytes:Tryz.prog.bytesOf 45=160:=by kernel_rfl
theorem und_exs:Tryz.prog.underlying 43=some (.slice 45):=by kernel_rfl
theorem nd_fields:fieldsOf Tryz.prog 70=some [(3,0),(9,1),(45,2),(9,12),(9,13),(22,14),(22,15)]:=by kernel_rfl
theorem nd_cells:Tryz.prog.cellsOf 70=16:=by kernel_rfl
theorem nds_cells:Tryz.prog.cellsOf 22=1:=by kernel_rfl
theorem nd_bytes:Tryz.prog.bytesOf 70=264:=by kernel_rfl
theorem und_nds:Tryz.prog.underlying 22=some (.slice 70):=by kernel_rfl
theorem list_of {α:Type} {P:Nat->α->Prop}:∀ n,(∀ i,i < n->∃ a,P i a)->∃ l:List α,l.length=n/\∀ i (h:i < l.length),P i l[i]
 | 0,_=>⟨[],rfl,fun i h=>absurd h (Nat.not_lt_zero _)⟩
 | n+1,h=>by
  obtain ⟨l,hl,hp⟩:=list_of n (fun i hi=>h i (by omega));obtain ⟨a,ha⟩:=h n (by omega)
  refine ⟨l++[a],by simp [hl],fun i hi=>?_⟩
  by_cases hc:i < l.length
  ·rw [List.getElem_append_left hc];exact hp i hc
  ·have hi2:i=n:=by simp at hi;omega
   subst hi2
   have e:(l++[a])[i]=a:=by simp [<-hl]
   rw [e];exact ha
section
variable {H:Type} {enc:TypeId × Value->H} {W:World}
theorem rows_texts {fuel:Nat} {cs:List Value} {x:DataW H × List MemPlace} (hf:DataW.trod enc Tryz.prog W 0 (fun _=>true) true fuel 42 cs=some x) (hw:(x.1.weights Tryz.prog 42).all (·<=reachBytes)=true):
  ∃ a l c,cs=[.slice a (List.length (α:=ByteArray) l) c]/\RepS W (fun _=>True) a l/\l.length<=c/\c<=maxLen/\l.length*16<=140737488355328:=by
 obtain ⟨a,n,c,k,rfl, -,h1,h2,h3,he⟩:=trod_row und_ss one_cells.2.2.2.1 (by omega) hf hw;rw [show Tryz.prog.bytesOf 9=16 by kernel_rfl] at h3
 obtain ⟨l,rfl,hl⟩:=list_of (P:=fun i (s:ByteArray)=>∃ b o,a=some ⟨b,o,none⟩/\W.cell? ⟨b,o+i,none⟩=some (.string s)/\s.size<=140737488351232) n (fun i hi=>by
  obtain ⟨b,o,es,y,e1,e2,e3,e4,e5⟩:=he i hi;obtain ⟨s,hs,hy, -⟩:=DataW.trod_string und_s e4;subst hs;rw [hy] at e5
  simp only [DataW.weights,List.all_cons,List.all_nil,Bool.and_true] at e5
  have:=of_decide_eq_true e5
  exact ⟨s,b,o,e1,by simpa using e3 0 _ rfl,by simpa [reachBytes] using this⟩)
 exact ⟨a,l,c,rfl,fun i hi=>by
  obtain ⟨b,o,e1,e2,e3⟩:=hl i hi
  exact ⟨b,o,e1,trivial,block_lt_of_cell (a:=⟨b,o+i,none⟩) e2,e2,e3⟩,h1,h2,by unfold reachBytes at h3;omega⟩
theorem open_ex (fuel:Nat):∀ (cs:List Value) (x:DataW H × List MemPlace),DataW.trod enc Tryz.prog W 0 (fun _=>true) true fuel 45 cs=some x->(x.1.weights Tryz.prog 45).all (·<=reachBytes)=true->
  ∃ e,RepX W (fun _=>True) cs e:=by
 induction fuel using Nat.strongRecOn with
 | _ fuel ih=>
 intro cs x h hw;obtain ⟨xs,n,rfl, -,hwe,hlen,hxl,hx⟩:=trod_fields ex_fields h;rw [ex_cells] at hlen;rw [hwe] at hw
 match cs,hlen with
 | [c0,c1,c2,c3,c4,c5,c6,c7,c8,c9],_=>
 match xs,hxl with
 | [y0,y1,y2,y3,y4],_=>
 obtain ⟨q0,q1,q2,q3,q4,q5⟩:=one_cells;have h0:=hx 0 _ rfl;have h1:=hx 1 _ rfl;have h2:=hx 2 _ rfl;have h3:=hx 3 _ rfl;have h4:=hx 4 _ rfl
 simp only [q0,q3,val_cells,exs_cells,strs_cells] at h0 h1 h2 h3 h4
 have h1':DataW.trod enc Tryz.prog W 0 (fun _=>true) true n 41 [c1,c2,c3,c4,c5,c6]=some y1:=h1;have h2':DataW.trod enc Tryz.prog W 0 (fun _=>true) true n 9 [c7]=some y2:=h2;have h3':DataW.trod enc Tryz.prog W 0 (fun _=>true) true n 42 [c8]=some y3:=h3;have h4':DataW.trod enc Tryz.prog W 0 (fun _=>true) true n 43 [c9]=some y4:=h4;have h0':DataW.trod enc Tryz.prog W 0 (fun _=>true) true n 3 [c0]=some y0:=h0;clear h0 h1 h2 h3 h4 hx;obtain ⟨k,hk, -,hkw⟩:=DataW.trod_int und_i h0'
 simp only [List.map_cons,List.map_nil,DataW.weightsEach] at hw
 obtain ⟨-,hw⟩:=all_append hw;obtain ⟨hw1,hw⟩:=all_append hw;obtain ⟨hw2,hw⟩:=all_append hw;obtain ⟨hw3,hw⟩:=all_append hw;obtain ⟨hw4, -⟩:=all_append hw;obtain ⟨t,ht⟩:=open_tree n _ y1 h1' hw1;obtain ⟨s,hs,hy2, -⟩:=DataW.trod_string und_s h2';rw [hy2] at hw2
 simp [DataW.weights,reachBytes] at hw2
 obtain ⟨sa,st,sc,hss,hst,hs1,hs2,hs3⟩:=rows_texts h3' hw3;obtain ⟨aa,an,ac,k9,ha,hk9,ha1,ha2,ha3,hae⟩:=trod_row und_exs ex_cells (by omega) h4' hw4;rw [ex_bytes] at ha3;obtain ⟨la,lc,ma,mc,hv, -⟩:=ht.inv
 injection hk with hk _
 injection hs with hs _
 injection hss with hss _
 injection ha with ha _
 simp at hv
 obtain ⟨rfl,rfl,rfl,rfl,rfl,rfl⟩:=hv;subst hk hs hss ha
 obtain ⟨l,rfl,hl⟩:=list_of (P:=fun i (e:Ex)=>∃ b o es,aa=some ⟨b,o,none⟩/\cellsAt W b (o+i*10) es/\RepX W (fun _=>True) es e) an (fun i hi=>by
  obtain ⟨b,o,es,y,e1,e2,e3,e4,e5⟩:=hae i hi;obtain ⟨e,he⟩:=ih k9 (by omega) es y e4 e5
  exact ⟨e,b,o,es,e1,e3,he⟩)
 exact ⟨.mk k t s st l,RepX.of (x:=.mk k t s st l) (la:=la) (lc:=lc) (ma:=ma) (mc:=mc) (sa:=sa) (sc:=sc) (aa:=aa) (ac:=ac) ⟨wf64 hkw,ht,of_decide_eq_true hw2,hst,⟨hs1,hs2,hs3⟩,⟨ha1,ha2,by unfold reachBytes at ha3;show l.length*160<=_;omega⟩,fun i hi=>by
  obtain ⟨b,o,es,e1,e2,e3⟩:=hl i hi
  exact ⟨b,o,es,e1,trivial,e2,e3⟩⟩⟩
theorem open_nd (fuel:Nat):∀ (cs:List Value) (x:DataW H × List MemPlace),DataW.trod enc Tryz.prog W 0 (fun _=>true) true fuel 70 cs=some x->(x.1.weights Tryz.prog 70).all (·<=reachBytes)=true->
  ∃ e,RepN W (fun _=>True) cs e:=by
 induction fuel using Nat.strongRecOn with
 | _ fuel ih=>
 intro cs x h hw;obtain ⟨xs,n,rfl, -,hwe,hlen,hxl,hx⟩:=trod_fields nd_fields h;rw [nd_cells] at hlen;rw [hwe] at hw
 match cs,hlen with
 | [c0,c1,c2,c3,c4,c5,c6,c7,c8,c9,c10,c11,c12,c13,c14,c15],_=>
 match xs,hxl with
 | [y0,y1,y2,y3,y4,y5,y6],_=>
 obtain ⟨q0,q1,q2,q3,q4,q5⟩:=one_cells;have h0:=hx 0 _ rfl;have h1:=hx 1 _ rfl;have h2:=hx 2 _ rfl;have h3:=hx 3 _ rfl;have h4:=hx 4 _ rfl;have h5:=hx 5 _ rfl;have h6:=hx 6 _ rfl
 simp only [q0,q3,ex_cells,nds_cells] at h0 h1 h2 h3 h4 h5 h6
 have h0':DataW.trod enc Tryz.prog W 0 (fun _=>true) true n 3 [c0]=some y0:=h0;have h1':DataW.trod enc Tryz.prog W 0 (fun _=>true) true n 9 [c1]=some y1:=h1;have h2':DataW.trod enc Tryz.prog W 0 (fun _=>true) true n 45 [c2,c3,c4,c5,c6,c7,c8,c9,c10,c11]=some y2:=h2;have h3':DataW.trod enc Tryz.prog W 0 (fun _=>true) true n 9 [c12]=some y3:=h3;have h4':DataW.trod enc Tryz.prog W 0 (fun _=>true) true n 9 [c13]=some y4:=h4;have h5':DataW.trod enc Tryz.prog W 0 (fun _=>true) true n 22 [c14]=some y5:=h5;have h6':DataW.trod enc Tryz.prog W 0 (fun _=>true) true n 22 [c15]=some y6:=h6;clear h0 h1 h2 h3 h4 h5 h6 hx;obtain ⟨k,hk, -,hkw⟩:=DataW.trod_int und_i h0'
 simp only [List.map_cons,List.map_nil,DataW.weightsEach] at hw
 obtain ⟨-,hw⟩:=all_append hw;obtain ⟨hw1,hw⟩:=all_append hw;obtain ⟨hw2,hw⟩:=all_append hw;obtain ⟨hw3,hw⟩:=all_append hw;obtain ⟨hw4,hw⟩:=all_append hw;obtain ⟨hw5,hw⟩:=all_append hw;obtain ⟨hw6, -⟩:=all_append hw;obtain ⟨t,ht,hy1, -⟩:=DataW.trod_string und_s h1';rw [hy1] at hw1
 simp [DataW.weights,reachBytes] at hw1
 obtain ⟨ex,hex⟩:=open_ex n _ y2 h2' hw2;obtain ⟨ky,hky,hy3, -⟩:=DataW.trod_string und_s h3';rw [hy3] at hw3
 simp [DataW.weights,reachBytes] at hw3
 obtain ⟨nm,hnm,hy4, -⟩:=DataW.trod_string und_s h4';rw [hy4] at hw4
 simp [DataW.weights,reachBytes] at hw4
 obtain ⟨ba,bn,bc,k5,hb,hk5,hb1,hb2,hb3,hbe⟩:=trod_row und_nds nd_cells (by omega) h5' hw5;obtain ⟨ea,en,ec,k6,he,hk6,he1,he2,he3,hee⟩:=trod_row und_nds nd_cells (by omega) h6' hw6;rw [nd_bytes] at hb3 he3;obtain ⟨la,lc,ma,mc,sa,sc,aa,ac,hv, -⟩:=hex.inv
 injection hk with hk _
 injection ht with ht _
 injection hky with hky _
 injection hnm with hnm _
 injection hb with hb _
 injection he with he _
 simp at hv
 obtain ⟨rfl,rfl,rfl,rfl,rfl,rfl,rfl,rfl,rfl,rfl⟩:=hv;subst hk ht hky hnm hb he
 obtain ⟨bl,rfl,hbl⟩:=list_of (P:=fun i (e:Nd)=>∃ b o es,ba=some ⟨b,o,none⟩/\cellsAt W b (o+i*16) es/\RepN W (fun _=>True) es e) bn (fun i hi=>by
  obtain ⟨b,o,es,y,e1,e2,e3,e4,e5⟩:=hbe i hi;obtain ⟨e,he⟩:=ih k5 (by omega) es y e4 e5
  exact ⟨e,b,o,es,e1,e3,he⟩)
 obtain ⟨el,rfl,hel⟩:=list_of (P:=fun i (e:Nd)=>∃ b o es,ea=some ⟨b,o,none⟩/\cellsAt W b (o+i*16) es/\RepN W (fun _=>True) es e) en (fun i hi=>by
  obtain ⟨b,o,es,y,e1,e2,e3,e4,e5⟩:=hee i hi;obtain ⟨e,he⟩:=ih k6 (by omega) es y e4 e5
  exact ⟨e,b,o,es,e1,e3,he⟩)
 exact ⟨.mk k t ex ky nm bl el,RepN.of (n:=.mk k t ex ky nm bl el) (la:=la) (lc:=lc) (ma:=ma) (mc:=mc) (sa:=sa) (sc:=sc) (aa:=aa) (ac:=ac) (ba:=ba) (bc:=bc) (ea:=ea) (ec:=ec) ⟨wf64 hkw,of_decide_eq_true hw1,hex,of_decide_eq_true hw3,of_decide_eq_true hw4,⟨hb1,hb2,by unfold reachBytes at hb3;show bl.length*264<=_;omega⟩,⟨he1,he2,by unfold reachBytes at he3;show el.length*264<=_;omega⟩,fun i hi=>by
  obtain ⟨b,o,es,e1,e2,e3⟩:=hbl i hi
  exact ⟨b,o,es,e1,trivial,e2,e3⟩,fun i hi=>by
  obtain ⟨b,o,es,e1,e2,e3⟩:=hel i hi
  exact ⟨b,o,es,e1,trivial,e2,e3⟩⟩⟩
theorem open_nodes {r:Reach} {b0:Nat} {v:Value} {d:DataW H} {p:List MemPlace} (hv:Value.okWide Tryz.prog W r b0 22 v) (h:DataW.Trod enc Tryz.prog W 0 (fun _=>true) true 22 v d p)
  (hw:(d.weights Tryz.prog 22).all (·<=reachBytes)=true):∃ a l c,v=.slice a (List.length (α:=Nd) l) c/\RepNs W (fun _=>True) a l/\Room l.length c 264:=by
 obtain ⟨a0,n0,c0,rfl⟩:=okWide_slice und_nds hv;obtain ⟨fuel,hf⟩:=h;obtain ⟨a,n,c,k,hl, -,h1,h2,h3,he⟩:=trod_row und_nds nd_cells (by omega) hf hw
 simp [Value.cells] at hl
 obtain ⟨rfl,rfl,rfl⟩:=hl;rw [nd_bytes] at h3
 obtain ⟨l,rfl,hl⟩:=list_of (P:=fun i (e:Nd)=>∃ b o es,a0=some ⟨b,o,none⟩/\cellsAt W b (o+i*16) es/\RepN W (fun _=>True) es e) n0 (fun i hi=>by
  obtain ⟨b,o,es,y,e1,e2,e3,e4,e5⟩:=he i hi;obtain ⟨e,he⟩:=open_nd k es y e4 e5
  exact ⟨e,b,o,es,e1,e3,he⟩)
 exact ⟨a0,l,c0,rfl,fun i hi=>by
  obtain ⟨b,o,es,e1,e2,e3⟩:=hl i hi
  exact ⟨b,o,es,e1,trivial,e2,e3⟩,h1,h2,by unfold reachBytes at h3;show l.length*264<=_;omega⟩
end
end Go.Proofs.YtnblmhfgmehnnaaGreatDoor
namespace Go.Proofs.YtnblmhfgmehnnaaGreatDoor
open Go.ChangeShapes Go.WideShapes Go.ChangeAt Go.RowKit
section
variable {H:Type} {enc:TypeId × Value->H} {P:Program}
theorem trod_nums {t e:TypeId} {k:IntKind} {W:World} {fuel:Nat} {cs:List Value} {x:DataW H × List MemPlace} (ht:P.underlying t=some (.slice e)) (he:P.underlying e=some (.int k)) (hc:P.cellsOf e=1)
  (h:DataW.trod enc P W 0 (fun _=>true) true fuel t cs=some x):
  ∃ a n c xs,cs=[.slice a n c]/\n=xs.length/\n<=9223372036854775807/\RepI W (fun b=>b < W.heap.size) k a xs/\∀ z ∈ xs,(Lit.int k z).wf=true:=by
 rcases open_ints ht he hc h with ⟨hcs,hx⟩ | ⟨a,len',cap',zs,hcs,_,hl,hm,hz,hx,hcell,hwz⟩
 ·exact ⟨none,0,0,[],hcs,rfl,by omega,fun i hi=>by simp at hi,by simp⟩
 ·rw [if_pos rfl] at hz
  have hlen:(zs.take len').length=len':=by rw [List.length_take];omega
  refine ⟨some a,len',cap',zs.take len',hcs,hlen.symm,by unfold maxLen at hm;omega,fun i hi=>?_,fun z hz2=>hwz z (List.mem_of_mem_take hz2)⟩
  have hi':i < len':=by omega
  have h0:=hcell 0 (by omega)
  have hs:a=⟨a.block,a.off,none⟩:=by
   have:a.add 0=a:=by simp [Addr.add]
   rw [this] at h0
   exact spot_none h0
  have hi2:=hcell i (by omega);rw [hs,add_none] at hi2;have hlt:=block_lt_of_cell (a:=⟨a.block,a.off+i,none⟩) hi2
  refine ⟨a.block,a.off,by rw [<-hs],hlt,hlt,?_⟩
  rw [hi2]
  simp [List.getElem_take,show i < zs.length by omega]
end
theorem open_u8s {H:Type} {enc:TypeId × Value->H} {W:World} {r:Reach} {b0:Nat} {v:Value} {d:DataW H} {p:List MemPlace} (hv:Value.okWide Tryz.prog W r b0 23 v) (h:DataW.Trod enc Tryz.prog W 0 (fun _=>true) true 23 v d p):
  ∃ a l c,v=.slice a (List.length (α:=Int) l) c/\RepI W (fun _=>True) .u8 a l/\l.length<=9223372036854775807/\∀ t ∈ l,0<=t/\t<=255:=by
 obtain ⟨a0,n0,c0,rfl⟩:=okWide_slice Tryz.underlying23 hv;obtain ⟨fuel,hf⟩:=h;obtain ⟨a,n,c,xs,hcs,rfl,h1,hr,hb⟩:=trod_nums Tryz.underlying23 Tryz.underlying5 (by kernel_rfl) hf
 simp [Value.cells] at hcs
 obtain ⟨rfl,rfl,rfl⟩:=hcs
 refine ⟨a0,xs,c0,rfl,fun i hi=>?_,h1,fun t ht=>bounds_u8 (hb t ht)⟩
 obtain ⟨b,o,e,_,h2,h3⟩:=hr i hi
 exact ⟨b,o,e,trivial,h2,h3⟩
end Go.Proofs.YtnblmhfgmehnnaaGreatDoor
