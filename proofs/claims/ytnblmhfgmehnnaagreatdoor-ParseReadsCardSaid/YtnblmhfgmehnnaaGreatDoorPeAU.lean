/- Several texts as one. -/
import Derived.Test.YtnblmhfgmehnnaaGreatDoorPeMv
import Derived.Test.YtnblmhfgmehnnaaGreatDoorPeAT
import Derived.Test.YtnblmhfgmehnnaaGreatDoorPeAS
import Derived.Test.YtnblmhfgmehnnaaGreatDoorPeAG
import Derived.Test.YtnblmhfgmehnnaaGreatDoorPeAC
set_option maxRecDepth 100000
set_option maxHeartbeats 16000000
namespace Go.Proofs.YtnblmhfgmehnnaaGreatDoor
open Go.RowKit Go.Lib
attribute [local go_sem ↓] Go.wp_at_zero Go.wp_at_succ
theorem wrap_ok (z:Int):i64ok (wrap64 z):=by
 unfold i64ok wrap64
 constructor <;>omega
def HvA (x:Ex) (q:Nat) (h:Int):Prop:=i64ok h/\∀ d,RightX d x->h=(1+x.val.str.size+x.name.size+(stepsW (x.steps.take q)).length:Nat)
def HvB (x:Ex) (q:Nat) (h:Int):Prop:=i64ok h/\∀ d,d<=16->RightX d x->0<=h/\h<=9007199254740992/\(h<=4000->((wtO x+((x.args.take q).map (wtX (d - 1))).sum:Nat):Int)<=h)
def HvC (x:Ex) (h:Int):Prop:=∀ (d:Nat),d<=16->RightX d x->0<=h/\h<=((d:Int)+1)*9007199254740992/\(h<=4000->(wtX d x:Int)<=h)
def HeavyI (x:Ex) (W:World) (e:Ending) (w':World):Prop:=∃ h:Int,i64ok h/\e=.returned (.int .i64 h)/\Below W.heap.size W w'/\HvC x h
theorem fit64 {z:Int} (h1: -9223372036854775808<=z) (h2:z < 9223372036854775808):wrap64 z=z:=by unfold wrap64;omega
theorem stepsW_takeH {l:List ByteArray} {q:Nat} (h:q < l.length):(stepsW (l.take (q+1))).length=(stepsW (l.take q)).length+(1+l[q].size):=by
 have e:l.take (q+1)=l.take q++[l[q]]:=by rw [List.take_succ_eq_append_getElem h]
 rw [e];unfold stepsW;rw [List.flatMap_append,List.length_append];rw [show List.flatMap (fun s=>46::s.data.toList) [l[q]]=46::l[q].data.toList from by simp,List.length_cons,<-size_list]
 omega
theorem stepsW_small {l:List ByteArray} (h:∀ s ∈ l,nameL s.data.toList=true):(stepsW l).length<=257*l.length:=by
 induction l with
 | nil=>simp [stepsW]
 | cons s l ih=>
  rw [stepsW_cons];have h1:=ih (fun s hs=>h s (List.mem_cons_of_mem _ hs));obtain ⟨_,_,_,_,_,h2⟩:=name_parts (h s List.mem_cons_self)
  simp only [List.length_cons,List.length_append]
  omega
structure Few (x:Ex):Prop where
 str:x.val.str.size<=140737488351232
 name:x.name.size<=140737488351232
 steps:x.steps.length*16<=140737488355328
theorem right_flat {d:Nat} {x:Ex} (h:RightX d x):x.val.list=[]/\x.val.map=[]:=by
 by_cases hk:x.kind=0
 ·obtain ⟨hv, -⟩:=h.own.lit hk
  rcases hv with hv | ⟨b,hv⟩ | ⟨n,hv, -⟩ | ⟨s,hv⟩ <;>rw [hv] <;>exact ⟨rfl,rfl⟩
 ·rw [h.own.bare hk];exact ⟨rfl,rfl⟩
theorem right_few {d:Nat} {x:Ex} (h:RightX d x) (hf:Few x):(stepsW x.steps).length<=4503599627370496:=by
 have h1:=stepsW_small h.own.steps;have h2:=hf.steps
 omega
theorem steps_mono {l:List ByteArray} (q:Nat):(stepsW (l.take q)).length<=(stepsW l).length:=by
 have e:stepsW l=stepsW (l.take q)++stepsW (l.drop q):=by
  unfold stepsW;rw [<-List.flatMap_append,List.take_append_drop]
 rw [e,List.length_append];omega
theorem hva_zero {x:Ex} (hf:Few x):HvA x 0 (wrap64 (wrap64 (wrap64 (wrap64 (1+(x.val.str.size:Int))+(x.name.size:Int))+(x.val.list.length:Int))+(x.val.map.length:Int))):=by
 refine ⟨wrap_ok _,fun d h=>?_⟩
 obtain ⟨e1,e2⟩:=right_flat h;have h1:=hf.str;have h2:=hf.name;rw [e1,e2];have e3:wrap64 (1+(x.val.str.size:Int))=1+(x.val.str.size:Int):=fit64 (by omega) (by omega);have e4:wrap64 (1+(x.val.str.size:Int)+(x.name.size:Int))=1+(x.val.str.size:Int)+(x.name.size:Int):=fit64 (by omega) (by omega);rw [e3,e4]
 simp only [List.length_nil,Int.ofNat_zero,List.take_zero,Int.add_zero]
 rw [e4,e4]
 simp [stepsW]
theorem hva_next {x:Ex} {q:Nat} {h:Int} (hf:Few x) (hA:HvA x q h) (hq:q < x.steps.length):HvA x (q+1) (wrap64 (h+wrap64 (1+(x.steps[q].size:Int)))):=by
 refine ⟨wrap_ok _,fun d hr=>?_⟩
 have e:=hA.2 d hr;have h1:=hf.str;have h2:=hf.name;have h3:=right_few hr hf;have h4:=steps_mono (l:=x.steps) (q+1);have h5:=stepsW_takeH hq;have e3:wrap64 (1+(x.steps[q].size:Int))=1+(x.steps[q].size:Int):=fit64 (by omega) (by omega);rw [e3,fit64 (by omega) (by omega),e]
 omega
theorem hvb_zero {x:Ex} {h:Int} (hf:Few x) (hA:HvA x x.steps.length h):HvB x 0 h:=by
 refine ⟨hA.1,fun d _ hr=>?_⟩
 have e:=hA.2 d hr;rw [List.take_of_length_le (Nat.le_refl _)] at e;have h1:=hf.str;have h2:=hf.name;have h3:=right_few hr hf
 refine ⟨by omega,by omega,fun _=>?_⟩
 simp only [List.take_zero,List.map_nil,List.sum_nil,Nat.add_zero]
 unfold wtO
 omega
theorem hvb_sum {x:Ex} {q:Nat} {h ha:Int} (hB:HvB x q h) (hq:q < x.args.length) (ha1:HvC x.args[q] ha) {d:Nat} (hd:d<=16) (hr:RightX d x):wrap64 (h+ha)=h+ha/\0<=h/\0<=ha/\h<=9007199254740992/\ha<=(d:Int)*9007199254740992/\(h+ha<=4000->((wtO x+((x.args.take (q+1)).map (wtX (d - 1))).sum:Nat):Int)<=h+ha):=by
 have hdp:0 < d:=hr.deep.resolve_left (fun e=>by rw [e] at hq;cases hq);obtain ⟨b1,b2,b3⟩:=hB.2 d hd hr;obtain ⟨c1,c2,c3⟩:=ha1 (d - 1) (by omega) (hr.args _ (List.getElem_mem hq))
 have e1:(((d - 1:Nat):Int)+1)=(d:Int):=by omega
 rw [e1] at c2
 refine ⟨fit64 (by omega) (by omega),b1,c1,b2,c2,fun hs=>?_⟩
 have b4:=b3 (by omega);have c4:=c3 (by omega)
 have e:x.args.take (q+1)=x.args.take q++[x.args[q]]:=by rw [List.take_succ_eq_append_getElem hq]
 rw [e,List.map_append,List.sum_append,List.map_cons,List.map_nil,List.sum_cons,List.sum_nil]
 omega
theorem hvb_big {x:Ex} {q:Nat} {h ha:Int} (hB:HvB x q h) (hq:q < x.args.length) (ha1:HvC x.args[q] ha) (hb:4000 < wrap64 (h+ha)):HvC x (wrap64 (h+ha)):=by
 intro d hd hr;obtain ⟨e,b1,c1,b2,c2, -⟩:=hvb_sum hB hq ha1 hd hr;rw [e] at hb ⊢
 exact ⟨by omega,by omega,fun hc=>by omega⟩
theorem hvb_next {x:Ex} {q:Nat} {h ha:Int} (hB:HvB x q h) (hq:q < x.args.length) (ha1:HvC x.args[q] ha) (hb:¬ 4000 < wrap64 (h+ha)):HvB x (q+1) (wrap64 (h+ha)):=by
 refine ⟨wrap_ok _,fun d hd hr=>?_⟩
 obtain ⟨e,b1,c1,b2,c2,s⟩:=hvb_sum hB hq ha1 hd hr;rw [e] at hb ⊢
 exact ⟨by omega,by omega,s⟩
theorem hvb_end {x:Ex} {h:Int} (hB:HvB x x.args.length h):HvC x h:=by
 intro d hd hr;obtain ⟨b1,b2,b3⟩:=hB.2 d hd hr
 refine ⟨b1,by omega,fun hc=>?_⟩
 have:=b3 hc
 rw [List.take_of_length_le (Nat.le_refl _)] at this;rw [wtX_step hr]
 exact this
theorem theavy {w:World} {S:Nat->Prop} {cs:List Value} {x:Ex} (h:RepX w S cs x):∀ (W:World) (deep:Int),Below w.heap.size w W->0<=deep->deep<=21->Calls Tryz.prog 15 #[.agg (List.toArray cs),.int .i64 deep] W (HeavyI x W):=by
 induction h with
 | mk k v nm st ar la lc ma mc sa sc aa ac C hk hv hn hs hsr har ha hr ih=>
 intro W deep hW hd0 hd1
 show Calls Tryz.prog 15 #[.agg #[.int .i64 k,.int .i64 v.kind,.bool v.bool,.int .i64 v.int,.string v.str,.slice la v.list.length lc,.slice ma v.map.length mc,.string nm,.slice sa st.length sc,.slice aa ar.length ac],.int .i64 deep] W _
 have hwW:=hW.size;have HS:=h_ (show RepS W S sa st from hs.mono (fun b hb _=>hb) (fun b o hb hlt=>hW.cell hlt))
 have HA:=h_ (fun i (hi:i < ar.length)=>show ∃ b o,aa=some ⟨b,o,none⟩/\b < W.heap.size/\cellsAt W b (o+i*10) (C i) from by
  obtain ⟨b,o,e,hb,hc⟩:=ha i hi
  have hlt:b < w.heap.size:=by have hl:=(hr i hi).len;generalize C i=cs at hc hl;cases cs with | nil=>simp at hl | cons c cs=>exact hc.lt
  exact ⟨b,o,e,by omega,hc.keep fun i=>hW.cell hlt⟩)
 have HR:=h_ (fun i (hi:i < ar.length)=>(hr i hi).inv);have HIH:=h_ ih;have hn1:=har.2.2;have hn2:=hsr.2.2;have HW:=h_ hW;have HV:=h_ hv;have HF:=h_ (show Few (Ex.mk k v nm st ar) from ⟨by obtain ⟨_,_,_,_,_,_,_,h3,_⟩:=hv.inv;exact h3,hn,hsr.2.2⟩);clear hk hv hn hs hsr har ha hr ih hW;have hb1:=Below.new W (.cells #[.int .i64 k,.int .i64 v.kind,.bool v.bool,.int .i64 v.int,.string v.str,.slice la v.list.length lc,.slice ma v.map.length mc,.string nm,.slice sa st.length sc,.slice aa ar.length ac] 45);have h1:=Blk.new W 45 #[.int .i64 k,.int .i64 v.kind,.bool v.bool,.int .i64 v.int,.string v.str,.slice la v.list.length lc,.slice ma v.map.length mc,.string nm,.slice sa st.length sc,.slice aa ar.length ac];obtain ⟨W1,e1⟩:∃ z,z=W.alloc (.cells #[.int .i64 k,.int .i64 v.kind,.bool v.bool,.int .i64 v.int,.string v.str,.slice la v.list.length lc,.slice ma v.map.length mc,.string nm,.slice sa st.length sc,.slice aa ar.length ac] 45):=⟨_,rfl⟩
 have z1:W1.heap.size=W.heap.size+1:=by rw [e1];simp
 rw [<-e1] at hb1 h1;obtain ⟨n1,en1⟩:∃ z,z=W.heap.size:=⟨_,rfl⟩;rw [<-en1] at h1;have HB1:=h_ hb1;have H1:=h_ h1;have E1:=h_ e1;have N1:=h_ en1;clear h1 hb1 e1 z1 en1
 by_cases hdeep:20 < deep
 ·go_enter Tryz.func15,Tryz.ntmps15
  go_wp2_with fail;go_ret;rw [<-E1.out]
  exact ⟨1048576,by unfold i64ok;omega,rfl,HB1.out,fun d _ _=>⟨by omega,by omega,fun h=>by omega⟩⟩
 ·have hdp:deep<=20:=by omega
  go_enter Tryz.func15,Tryz.ntmps15
  go_wp2_with fail;rw [<-E1.out,<-N1.out];have k1:=H1.out.cell;have f1:=H1.out.frozen;have l1:=H1.out.lt
  go_loopw [5,34] (fun x5 x wr=>∃ (q:Nat) (h:Int),q<=st.length/\x=.int .i64 q/\x5=.int .i64 h/\Hid (HvA (Ex.mk k v nm st ar) q h)/\Hid (Below W.heap.size W wr)/\Hid (Blk wr n1 45 #[.int .i64 k,.int .i64 v.kind,.bool v.bool,.int .i64 v.int,.string v.str,.slice la v.list.length lc,.slice ma v.map.length mc,.string nm,.slice sa st.length sc,.slice aa ar.length ac])) (fun _ x _=>st.length - (Lib.intOf x).toNat)
  case atStart=>exact ⟨0,_,Nat.zero_le _,rfl,rfl,h_ (hva_zero HF.out),HB1,H1⟩
  case round=>
   obtain ⟨q,h,hq,rfl,rfl,HH,HBQ,HQ1⟩:=hrel;clear k1 f1 l1
   by_cases hlt:q < st.length
   ·obtain ⟨b,bo,rfl, -,hbl,hc, -⟩:=HS.out q hlt
    have hcw:wr.cell? ⟨b,bo+q,none⟩=some (.string st[q]):=(HBQ.out.cell (p:=⟨b,bo+q,none⟩) hbl).trans hc
    have hg0:(0:Int)<=(q:Int):=by omega
    have hg1:(q:Int) < (st.length:Int):=by omega
    have hwk:IntKind.i64.wrap ((q:Int)+1)=(q:Int)+1:=wrap_fit (by omega) (by omega);have HN:=h_ (show HvA (Ex.mk k v nm st ar) (q+1) (wrap64 (h+wrap64 (1+(st[q].size:Int)))) from hva_next HF.out HH.out hlt)
    generalize st[q]=sq at hcw HN
    have k1:=HQ1.out.cell;have f1:=HQ1.out.frozen;have l1:=HQ1.out.lt;have hs1:=HBQ.out.size
    have hlb:b < wr.heap.size:=by omega
    clear hc;go_wp2_with fail
    go_roundw
    case rel=>exact ⟨q+1,_,by omega,by go_num,rfl,by exact HN,HBQ,HQ1⟩
    case measure=>simp [Lib.intOf];omega
   ·have hge:¬ (q:Int) < (st.length:Int):=by omega
    have k1:=HQ1.out.cell;have f1:=HQ1.out.frozen;have l1:=HQ1.out.lt;clear hlt;go_wp2_with fail
    go_loopw [5,47] (fun x5 x wr=>∃ (q:Nat) (h:Int),q<=ar.length/\x=.int .i64 q/\x5=.int .i64 h/\Hid (HvB (Ex.mk k v nm st ar) q h)/\Hid (Below W.heap.size W wr)/\Hid (Blk wr n1 45 #[.int .i64 k,.int .i64 v.kind,.bool v.bool,.int .i64 v.int,.string v.str,.slice la v.list.length lc,.slice ma v.map.length mc,.string nm,.slice sa st.length sc,.slice aa ar.length ac])) (fun _ x _=>ar.length - (Lib.intOf x).toNat)
    case atStart=>exact ⟨0,_,Nat.zero_le _,rfl,rfl,h_ (hvb_zero HF.out (by have:=HH.out;rw [show q=(Ex.mk k v nm st ar).steps.length from by show q=st.length;omega] at this;exact this)),HBQ,HQ1⟩
    case round=>
     obtain ⟨q,h,hq,rfl,rfl,HH,HBP,HP1⟩:=hrel;clear k1 f1 l1
     by_cases hlt:q < ar.length
     ·obtain ⟨b,bo,rfl,hbl,hcell⟩:=HA.out q hlt
      obtain ⟨lay,lcy,may,mcy,say,scy,aay,acy,hC, -⟩:=HR.out q hlt;have hih:=HIH.out q hlt;rw [hC] at hcell hih;obtain ⟨y,hy⟩:∃ z,z=ar[q]:=⟨_,rfl⟩;rw [<-hy] at hcell hih
      have hcw:cellsAt wr b (bo+q*10) [.int .i64 y.kind,.int .i64 y.val.kind,.bool y.val.bool,.int .i64 y.val.int,.string y.val.str,.slice lay y.val.list.length lcy,.slice may y.val.map.length mcy,.string y.name,.slice say y.steps.length scy,.slice aay y.args.length acy]:=hcell.keep fun i=>HBP.out.cell (p:=⟨b,i,none⟩) hbl
      have hsz:=HBP.out.size
      have hlb:b < wr.heap.size:=by omega
      have c0:wr.cell? ⟨b,bo+q*10,none⟩=some (.int .i64 y.kind):=hcw 0 _ rfl;have c1:wr.cell? ⟨b,bo+q*10+1,none⟩=some (.int .i64 y.val.kind):=hcw 1 _ rfl;have c2:wr.cell? ⟨b,bo+q*10+2,none⟩=some (.bool y.val.bool):=hcw 2 _ rfl;have c3:wr.cell? ⟨b,bo+q*10+3,none⟩=some (.int .i64 y.val.int):=hcw 3 _ rfl;have c4:wr.cell? ⟨b,bo+q*10+4,none⟩=some (.string y.val.str):=hcw 4 _ rfl;have c5:wr.cell? ⟨b,bo+q*10+5,none⟩=some (.slice lay y.val.list.length lcy):=hcw 5 _ rfl;have c6:wr.cell? ⟨b,bo+q*10+6,none⟩=some (.slice may y.val.map.length mcy):=hcw 6 _ rfl;have c7:wr.cell? ⟨b,bo+q*10+7,none⟩=some (.string y.name):=hcw 7 _ rfl;have c8:wr.cell? ⟨b,bo+q*10+8,none⟩=some (.slice say y.steps.length scy):=hcw 8 _ rfl;have c9:wr.cell? ⟨b,bo+q*10+9,none⟩=some (.slice aay y.args.length acy):=hcw 9 _ rfl
      have hg0:(0:Int)<=(q:Int):=by omega
      have hg1:(q:Int) < (ar.length:Int):=by omega
      have hwk:IntKind.i64.wrap ((q:Int)+1)=(q:Int)+1:=wrap_fit (by omega) (by omega);have HIHY:=h_ hih;have HY:=h_ hy;have HAY:=h_ (fun ha (hx:HvC y ha)=>show HvC (Ex.mk k v nm st ar).args[q] ha from by show HvC ar[q] ha;rw [<-HY.out];exact hx);have k1:=HP1.out.cell;have f1:=HP1.out.frozen;have l1:=HP1.out.lt;clear hcell hcw hC hih hy;go_upto_region 12 with fail;have hba:=Below.new wr (.cells #[.int .i64 y.kind,.int .i64 y.val.kind,.bool y.val.bool,.int .i64 y.val.int,.string y.val.str,.slice lay y.val.list.length lcy,.slice may y.val.map.length mcy,.string y.name,.slice say y.steps.length scy,.slice aay y.args.length acy] 45);have h5:=Blk.new wr 45 #[.int .i64 y.kind,.int .i64 y.val.kind,.bool y.val.bool,.int .i64 y.val.int,.string y.val.str,.slice lay y.val.list.length lcy,.slice may y.val.map.length mcy,.string y.name,.slice say y.steps.length scy,.slice aay y.args.length acy];have HBA:=h_ (HBP.out.alloc HBP.out.size (.cells #[.int .i64 y.kind,.int .i64 y.val.kind,.bool y.val.bool,.int .i64 y.val.int,.string y.val.str,.slice lay y.val.list.length lcy,.slice may y.val.map.length mcy,.string y.name,.slice say y.steps.length scy,.slice aay y.args.length acy] 45));have HPA:=h_ (HP1.out.keep hba);obtain ⟨WA,eA⟩:∃ z,z=wr.alloc (.cells #[.int .i64 y.kind,.int .i64 y.val.kind,.bool y.val.bool,.int .i64 y.val.int,.string y.val.str,.slice lay y.val.list.length lcy,.slice may y.val.map.length mcy,.string y.name,.slice say y.steps.length scy,.slice aay y.args.length acy] 45):=⟨_,rfl⟩;obtain ⟨n5,e5⟩:∃ z,z=wr.heap.size:=⟨_,rfl⟩;rw [<-eA] at HBA HPA h5;rw [<-e5] at h5;rw [<-eA,<-e5];have H5:=h_ h5;clear hba eA e5 h5 k1 f1 l1 c0 c1 c2 c3 c4 c5 c6 c7 c8 c9;have HWA:=h_ (show Below w.heap.size w WA from ⟨HBA.out.os.trans HW.out.os,HBA.out.tape.trans HW.out.tape,HBA.out.output.trans HW.out.output,Nat.le_trans HW.out.size HBA.out.size,fun b hb=>(HBA.out.block b (by omega)).trans (HW.out.block b hb)⟩);have HSS:=h_ (show ∀ wx,Below WA.heap.size WA wx->(fun w'=>∀ i,w'.cell? ⟨n5,i,none⟩=(#[.int .i64 y.kind,.int .i64 y.val.kind,.bool y.val.bool,.int .i64 y.val.int,.string y.val.str,.slice lay y.val.list.length lcy,.slice may y.val.map.length mcy,.string y.name,.slice say y.steps.length scy,.slice aay y.args.length acy]:Array Value)[i]?) wx from fun wx hx=>(H5.out.keep hx).cell);have k5:=H5.out.cell;have f5:=H5.out.frozen;have l5:=H5.out.lt;have hwd:IntKind.i64.wrap (deep+1)=deep+1:=wrap_fit (by omega) (by omega);go_wp2_with fail
      refine (HIHY.out _ (deep+1) HWA.out (by omega) (by omega)).mono ?_
      rintro e w8 ⟨ha,hai,rfl,hb8,hax⟩;have HB8:=h_ (Below.next HBA.out hb8);have HP8:=h_ (HPA.out.keep hb8);have HAI:=h_ hai;have HAX:=h_ hax;clear hb8 k5 f5 l5 hai hax;have HBG:=h_ (fun hb=>hvb_big HH.out hlt (HAY.out _ HAX.out) hb);have HNX:=h_ (fun hb=>hvb_next HH.out hlt (HAY.out _ HAX.out) hb)
      by_cases hbig:4000 < wrap64 (h+ha)
      ·go_wp2_with fail
       go_ret
       exact ⟨_,wrap_ok _,rfl,HB8.out,HBG.out hbig⟩
      ·have HNN:=h_ (show HvB (Ex.mk k v nm st ar) (q+1) (wrap64 (h+ha)) from HNX.out hbig)
       go_wp2_with fail
       go_roundw
       case rel=>exact ⟨q+1,_,by omega,by go_num,rfl,HNN,HB8,HP8⟩
       case measure=>simp [Lib.intOf];omega
     ·have hge:¬ (q:Int) < (ar.length:Int):=by omega
      have k1:=HP1.out.cell;have f1:=HP1.out.frozen;have l1:=HP1.out.lt;clear hlt;go_wp2_with fail;go_ret
      exact ⟨h,HH.out.1,rfl,HBP.out,hvb_end (by have:=HH.out;rw [show q=(Ex.mk k v nm st ar).args.length from by show q=ar.length;omega] at this;exact this)⟩
theorem byte_class (c:UInt8):(((c.toNat:Int) < 48\/(57 < (c.toNat:Int)/\(c.toNat:Int) < 65)\/(90 < (c.toNat:Int)/\(c.toNat:Int) < 95)\/(95 < (c.toNat:Int)/\(c.toNat:Int) < 97)\/122 < (c.toNat:Int))/\npartB c=false/\nletB c=false)\/((48<=(c.toNat:Int)/\(c.toNat:Int)<=57)/\npartB c=true/\nletB c=false)\/(((65<=(c.toNat:Int)/\(c.toNat:Int)<=90)\/(c.toNat:Int)=95\/(97<=(c.toNat:Int)/\(c.toNat:Int)<=122))/\npartB c=true/\nletB c=true):=by
 have key:(List.range 256).all (fun n=>(decide (n < 48\/(57 < n/\n < 65)\/(90 < n/\n < 95)\/(95 < n/\n < 97)\/122 < n) && (npartB (UInt8.ofNat n)==false) && (nletB (UInt8.ofNat n)==false)) || (decide (48<=n/\n<=57) && (npartB (UInt8.ofNat n)==true) && (nletB (UInt8.ofNat n)==false)) || (decide ((65<=n/\n<=90)\/n=95\/(97<=n/\n<=122)) && (npartB (UInt8.ofNat n)==true) && (nletB (UInt8.ofNat n)==true)))=true:=by decide+kernel
 have:=List.all_eq_true.1 key c.toNat (List.mem_range.2 (UInt8.toNat_lt c))
 simp only [UInt8.ofNat_toNat,Bool.or_eq_true,Bool.and_eq_true,decide_eq_true_eq,beq_iff_eq] at this
 rcases this with (⟨⟨h1,h2⟩,h3⟩ | ⟨⟨h1,h2⟩,h3⟩) | ⟨⟨h1,h2⟩,h3⟩
 ·exact .inl ⟨by omega,h2,h3⟩
 ·exact .inr (.inl ⟨by omega,h2,h3⟩)
 ·exact .inr (.inr ⟨by omega,h2,h3⟩)
theorem trname (s:ByteArray) (w:World) (hs:s.size<=140737488351232):Calls Tryz.prog 21 #[.string s] w fun e w'=>e=.returned (.bool (nameL s.data.toList))/\w=w':=by
 obtain ⟨bb,hbb⟩:∃ z,z=nameL s.data.toList:=⟨_,rfl⟩;rw [<-hbb];have HBB:=h_ hbb;clear hbb
 go_enter Tryz.func21,Tryz.ntmps21
 go_wp2_with fail
 go_loop [3] (fun x6=>∃ q:Nat,q<=s.size/\x6=.int .i64 q/\Hid ((s.data.toList.take q).all npartB=true)/\Hid (0 < q->∀ h:0 < s.size,nletB s[0]=true)) (fun x6=>s.size - (Lib.intOf x6).toNat)
 case atStart=>exact ⟨0,Nat.zero_le _,rfl,h_ (by simp),h_ (fun h=>absurd h (Nat.lt_irrefl _))⟩
 case round=>
  obtain ⟨q,hq,rfl,HA,HL⟩:=hrel
  by_cases hlt:q < s.size
  ·have hlt2:(q:Int) < s.size:=by omega
   have h256:=UInt8.toNat_lt s[q];have hbc:=byte_class s[q];have HA2:=h_ (fun hp:npartB s[q]=true=>show (s.data.toList.take (q+1)).all npartB=true from by rw [all_take_succ (by rw [<-size_list];exact hlt),HA.out,<-byte_at hlt,hp];rfl);have HB0:=h_ (fun hp:npartB s[q]=false=>name_bad1 hlt hp);have HB1:=h_ (fun (h0:q=0) (hp:nletB s[q]=false)=>show nameL s.data.toList=false from by subst h0;exact name_bad0 hlt hp)
   have HL2:=h_ (fun (hp:nletB s[q]=true\/0 < q)=>show ∀ h:0 < s.size,nletB s[0]=true from fun h=>by
    by_cases h0:q=0
    ·subst h0;exact hp.elim id (fun h=>absurd h (Nat.lt_irrefl _))
    ·exact HL.out (by omega) h)
   obtain ⟨cn,hcn⟩:∃ z,z=s[q].toNat:=⟨_,rfl⟩
   rcases hbc with ⟨hr,hp,hl⟩ | ⟨⟨hr,hr2⟩,hp,hl⟩ | ⟨hr,hp,hl⟩
   ·have HE:=h_ (HB0.out hp)
    clear hp hl HA2 HB0 HB1 HL2 hcn;have g95:((s[q].toNat:Int)==95)=false:=bf_ (by omega)
    by_cases h0:q=0
    ·subst h0
     rcases hr with hr | ⟨hr,hr2⟩ | ⟨hr,hr2⟩ | ⟨hr,hr2⟩ | hr
     all_goals
      go_wp2_with fail
      all_goals first | (go_ret;exact ⟨by rw [HBB.out,HE.out];rfl,rfl⟩) | (rename_i hx;simp at hx;omega)
    ·have g0:((q:Int)==0)=false:=bf_ (by omega)
     clear h0
     rcases hr with hr | ⟨hr,hr2⟩ | ⟨hr,hr2⟩ | ⟨hr,hr2⟩ | hr
     all_goals
      go_wp2_with fail
      all_goals first | (go_ret;exact ⟨by rw [HBB.out,HE.out];rfl,rfl⟩) | (rename_i hx;simp at hx;omega)
   ·have g95:((s[q].toNat:Int)==95)=false:=bf_ (by omega)
    by_cases h0:q=0
    ·have HE:=h_ (HB1.out h0 hl)
     clear hp hl HA2 HB0 HB1 HL2 hcn;subst h0;go_wp2_with fail;go_ret
     exact ⟨by rw [HBB.out,HE.out];rfl,rfl⟩
    ·have HA3:=h_ (HA2.out hp);have HL3:=h_ (HL2.out (.inr (by omega)))
     have g0:((q:Int)==0)=false:=bf_ (by omega);clear hp hl HA2 HB0 HB1 HL2 hcn h0;go_wp2_with fail
     go_round
     case rel=>exact ⟨q+1,by omega,by go_num,HA3,h_ (fun _=>HL3.out)⟩
     case measure=>simp [Lib.intOf];omega
   ·have HA3:=h_ (HA2.out hp);have HL3:=h_ (HL2.out (.inl hl))
    clear hp hl HA2 HB0 HB1 HL2 hcn
    rcases hr with ⟨hr,hr2⟩ | hr | ⟨hr,hr2⟩
    ·go_wp2_with fail
     go_round
     case rel=>exact ⟨q+1,by omega,by go_num,HA3,h_ (fun _=>HL3.out)⟩
     case measure=>simp [Lib.intOf];omega
    ·have g95:((s[q].toNat:Int)==95)=true:=by rw [hr];rfl
     have hr1:90 < (s[q].toNat:Int):=by omega
     have hr2:(s[q].toNat:Int) < 97:=by omega
     clear hr;go_wp2_with fail
     go_round
     case rel=>exact ⟨q+1,by omega,by go_num,HA3,h_ (fun _=>HL3.out)⟩
     case measure=>simp [Lib.intOf];omega
    ·go_wp2_with fail
     go_round
     case rel=>exact ⟨q+1,by omega,by go_num,HA3,h_ (fun _=>HL3.out)⟩
     case measure=>simp [Lib.intOf];omega
  ·obtain rfl:q=s.size:=by omega
   have HE:=h_ (name_good (by have h9:=HA.out;rw [List.take_of_length_le (by rw [<-size_list];exact Nat.le_refl _)] at h9;exact h9) (fun h=>HL.out h h))
   by_cases h0:s.size=0
   ·have g0:¬ (1:Int)<=s.size:=by omega
    go_wp2_with fail;go_ret
    exact ⟨by rw [HBB.out,HE.out,decide_eq_false (fun h=>h h0)];rfl,rfl⟩
   ·have g0:(1:Int)<=s.size:=by omega
    have HZ:=h_ h0;have HD:=h_ (show decide ((s.size:Int)<=256)=decide (s.size<=256) from by rw [decide_eq_decide];omega);clear h0;go_wp2_with fail;go_ret
    exact ⟨by rw [HBB.out,HE.out,decide_eq_true HZ.out,Bool.true_and,<-HD.out];rfl,rfl⟩
def freeB (s:LB_):Bool:=s !=ifW && s !=withW && s !=rangeW && s !=defineW && s !=elseW && s !=endW
theorem trword (s:ByteArray) (w:World):Calls Tryz.prog 30 #[.string s] w fun e w'=>e=.returned (.bool (wordsB s.data.toList))/\w=w':=by
 by_cases c0:s.data.toList=[116,114,117,101]
 ·have g0:(s.toList==[116,114,117,101])=true:=by rw [word_eq];exact decide_eq_true c0
  have HE:=h_ (show wordsB s.data.toList=false from by rw [c0];decide);clear c0
  go_enter Tryz.func30,Tryz.ntmps30
  go_wp2_with fail;go_ret
  exact ⟨by rw [HE.out];rfl,rfl⟩
 ·have g0:(s.toList==[116,114,117,101])=false:=by rw [word_eq];exact decide_eq_false c0
  by_cases c1:s.data.toList=[102,97,108,115,101]
  ·have g1:(s.toList==[102,97,108,115,101])=true:=by rw [word_eq];exact decide_eq_true c1
   have HE:=h_ (show wordsB s.data.toList=false from by rw [c1];decide);clear c0 c1
   go_enter Tryz.func30,Tryz.ntmps30
   go_wp2_with fail;go_ret
   exact ⟨by rw [HE.out];rfl,rfl⟩
  ·have g1:(s.toList==[102,97,108,115,101])=false:=by rw [word_eq];exact decide_eq_false c1
   by_cases c2:s.data.toList=[110,105,108]
   ·have g2:(s.toList==[110,105,108])=true:=by rw [word_eq];exact decide_eq_true c2
    have HE:=h_ (show wordsB s.data.toList=false from by rw [c2];decide);clear c0 c1 c2
    go_enter Tryz.func30,Tryz.ntmps30
    go_wp2_with fail;go_ret
    exact ⟨by rw [HE.out];rfl,rfl⟩
   ·have g2:(s.toList==[110,105,108])=false:=by rw [word_eq];exact decide_eq_false c2
    have HE:=h_ (show wordsB s.data.toList=true from by unfold wordsB;simp only [Bool.and_eq_true,bne_iff_ne,ne_eq];exact ⟨⟨c0,c1⟩,c2⟩);clear c0 c1 c2
    go_enter Tryz.func30,Tryz.ntmps30
    go_wp2_with fail;go_ret
    exact ⟨by rw [HE.out];rfl,rfl⟩
theorem trfree (s:ByteArray) (w:World):Calls Tryz.prog 31 #[.string s] w fun e w'=>e=.returned (.bool (freeB s.data.toList))/\w=w':=by
 by_cases c0:s.data.toList=[105,102]
 ·have g0:(s.toList==[105,102])=true:=by rw [word_eq];exact decide_eq_true c0
  have HE:=h_ (show freeB s.data.toList=false from by rw [c0];decide);clear c0
  go_enter Tryz.func31,Tryz.ntmps31
  go_wp2_with fail;go_ret
  exact ⟨by rw [HE.out];rfl,rfl⟩
 ·have g0:(s.toList==[105,102])=false:=by rw [word_eq];exact decide_eq_false c0
  by_cases c1:s.data.toList=[119,105,116,104]
  ·have g1:(s.toList==[119,105,116,104])=true:=by rw [word_eq];exact decide_eq_true c1
   have HE:=h_ (show freeB s.data.toList=false from by rw [c1];decide);clear c0 c1
   go_enter Tryz.func31,Tryz.ntmps31
   go_wp2_with fail;go_ret
   exact ⟨by rw [HE.out];rfl,rfl⟩
  ·have g1:(s.toList==[119,105,116,104])=false:=by rw [word_eq];exact decide_eq_false c1
   by_cases c2:s.data.toList=[114,97,110,103,101]
   ·have g2:(s.toList==[114,97,110,103,101])=true:=by rw [word_eq];exact decide_eq_true c2
    have HE:=h_ (show freeB s.data.toList=false from by rw [c2];decide);clear c0 c1 c2
    go_enter Tryz.func31,Tryz.ntmps31
    go_wp2_with fail;go_ret
    exact ⟨by rw [HE.out];rfl,rfl⟩
   ·have g2:(s.toList==[114,97,110,103,101])=false:=by rw [word_eq];exact decide_eq_false c2
    by_cases c3:s.data.toList=[100,101,102,105,110,101]
    ·have g3:(s.toList==[100,101,102,105,110,101])=true:=by rw [word_eq];exact decide_eq_true c3
     have HE:=h_ (show freeB s.data.toList=false from by rw [c3];decide);clear c0 c1 c2 c3
     go_enter Tryz.func31,Tryz.ntmps31
     go_wp2_with fail;go_ret
     exact ⟨by rw [HE.out];rfl,rfl⟩
    ·have g3:(s.toList==[100,101,102,105,110,101])=false:=by rw [word_eq];exact decide_eq_false c3
     by_cases c4:s.data.toList=[101,108,115,101]
     ·have g4:(s.toList==[101,108,115,101])=true:=by rw [word_eq];exact decide_eq_true c4
      have HE:=h_ (show freeB s.data.toList=false from by rw [c4];decide);clear c0 c1 c2 c3 c4
      go_enter Tryz.func31,Tryz.ntmps31
      go_wp2_with fail;go_ret
      exact ⟨by rw [HE.out];rfl,rfl⟩
     ·have g4:(s.toList==[101,108,115,101])=false:=by rw [word_eq];exact decide_eq_false c4
      by_cases c5:s.data.toList=[101,110,100]
      ·have g5:(s.toList==[101,110,100])=true:=by rw [word_eq];exact decide_eq_true c5
       have HE:=h_ (show freeB s.data.toList=false from by rw [c5];decide);clear c0 c1 c2 c3 c4 c5
       go_enter Tryz.func31,Tryz.ntmps31
       go_wp2_with fail;go_ret
       exact ⟨by rw [HE.out];rfl,rfl⟩
      ·have g5:(s.toList==[101,110,100])=false:=by rw [word_eq];exact decide_eq_false c5
       have HE:=h_ (show freeB s.data.toList=true from by unfold freeB;simp only [Bool.and_eq_true,bne_iff_ne,ne_eq];exact ⟨⟨⟨⟨⟨c0,c1⟩,c2⟩,c3⟩,c4⟩,c5⟩);clear c0 c1 c2 c3 c4 c5
       go_enter Tryz.func31,Tryz.ntmps31
       go_wp2_with fail;go_ret
       exact ⟨by rw [HE.out];rfl,rfl⟩
end Go.Proofs.YtnblmhfgmehnnaaGreatDoor
namespace Go.Proofs.YtnblmhfgmehnnaaGreatDoor
structure BodyOk (b:LB_):Prop where
 clos:∀ r,r≠[]->clos false (b++r)=(clos false r).map (·+b.length)
 dl:∀ p,Blk_ p->dashL (p++(b++p))=false
 dr:∀ p,Blk_ p->dashR (p++(b++p))=false
 bd:∀ p,Blk_ p->body (p++(b++p))=b
 nc:comment b=false
inductive Pc where
 | t (s:LB_)
 | a (p b:LB_)
 | c
def comB:LB_:=[47,42,32,120,32,42,47]
def Pc.flat:Pc->LB_
 | .t s=>s
 | .a p b=>123::123::(p++(b++p)++[125,125])
 | .c=>123::123::(comB++[125,125])
def flatP (l:List Pc):LB_:=l.flatMap Pc.flat
def Pc.tok:Pc->List (Bool × LB_)
 | .t s=>[(false,s)]
 | .a _ b=>[(true,b)]
 | .c=>[]
def tokP (l:List Pc):List (Bool × LB_):=l.flatMap Pc.tok
def Pc.ok:Pc->Prop
 | .t s=>s≠[]/\∀ c ∈ s,c≠123
 | .a p b=>Blk_ p/\BodyOk b
 | .c=>True
def apartP:List Pc->Prop
 | .t _:: .t _::_=>False
 | _::l=>apartP l
 | []=>True
theorem fine_text {s:LB_} (h:∀ c ∈ s,c≠123):Fine s:=by
 refine ⟨?_,fun x hx=>h x (List.mem_of_getLast? hx)⟩
 induction s with
 | nil=>rfl
 | cons a s ih=>
  cases s with
  | nil=>rfl
  | cons b s=>
   rw [find2,if_neg (fun e=>h a (List.mem_cons_self ..) e.1),ih (fun c hc=>h c (List.mem_cons_of_mem _ hc))]
   rfl
theorem clos_pad {p b r:LB_} (hp:Blk_ p) (hb:BodyOk b):clos false ((p++(b++p))++125::125::r)=some (p++(b++p)).length:=by
 have hpp:∀ x ∈ p,x≠34/\x≠125:=fun x hx=>by rcases blank_cases (hp x hx) with rfl | rfl | rfl <;>decide
 have e:(p++(b++p))++125::125::r=p++(b++(p++125::125::r)):=by simp
 rw [e,clos_skip hpp (by simp),hb.clos _ (by simp),clos_plain r hpp]
 simp only [Option.map_some,List.length_append,Option.some.injEq]
 omega
theorem pairs_txt {s:LB_} (h:s≠[]) (n:Nat):(txt s n).map (fun t=>(t.act,t.s))=[(false,s)]:=by unfold txt;rw [if_neg h];rfl
theorem split_one {s raw r:LB_} {n i:Nat} {toks:List Tok} (hs:Fine s) (hc:clos false (raw++125::125::r)=some raw.length) (hl:dashL raw=false) (hr:dashR raw=false) (h:splitM n r (i+(s.length+2+(raw.length+2))) false=some toks):
  ∃ t2,splitM (n+1) (s++123::123::(raw++125::125::r)) i false=some t2/\t2.map (fun t=>(t.act,t.s))=(if s=[] then [] else [(false,s)])++((if comment (body raw) then [] else [(true,body raw)])++toks.map (fun t=>(t.act,t.s))):=by
 rw [splitM_act hs.1 hs.2 hc,hr,h]
 refine ⟨_,rfl,?_⟩
 simp only [List.map_append]
 have e:behind raw (ahead false s)=s:=by unfold behind;rw [hl];rfl
 rw [e]
 congr 1
 ·unfold txt;split <;>rfl
 ·congr 1
  unfold actn
  split <;>rfl
theorem com_ok:dashL comB=false/\dashR comB=false/\body comB=comB/\comment comB=true/\∀ x ∈ comB,x≠34/\x≠125:=by decide
theorem split_pcs:∀ (l:List Pc) (n i:Nat),(flatP l).length < n->(∀ p ∈ l,p.ok)->apartP l->∃ toks,splitM n (flatP l) i false=some toks/\toks.map (fun t=>(t.act,t.s))=tokP l
 | [],n,i,hn,_,_=>⟨[],by show splitM n [] i false=_;exact splitM_nil _ _ _,rfl⟩
 | .a p b::l,0,i,hn,_,_=>by omega
 | .c::l,0,i,hn,_,_=>by omega
 | .t s::l,0,i,hn,_,_=>by omega
 | .a p b::l,n+1,i,hn,ho,ha=>by
  obtain ⟨hp,hb⟩:Blk_ p/\BodyOk b:=ho _ (List.mem_cons_self ..)
  have e:flatP (.a p b::l)=[]++123::123::((p++(b++p))++125::125::flatP l):=by simp [flatP,Pc.flat]
  rw [e] at hn ⊢;obtain ⟨toks,h1,h2⟩:=split_pcs l n (i+(([]:LB_).length+2+((p++(b++p)).length+2))) (by simp only [List.length_append,List.length_cons,List.length_nil] at hn;omega) (fun x hx=>ho x (List.mem_cons_of_mem _ hx)) ha;obtain ⟨t2,h3,h4⟩:=split_one fine_nil (clos_pad hp hb) (hb.dl p hp) (hb.dr p hp) h1
  refine ⟨t2,h3,?_⟩
  rw [h4,hb.bd p hp,hb.nc,h2]
  rfl
 | .c::l,n+1,i,hn,ho,ha=>by
  have e:flatP (.c::l)=[]++123::123::(comB++125::125::flatP l):=by simp [flatP,Pc.flat]
  rw [e] at hn ⊢;obtain ⟨toks,h1,h2⟩:=split_pcs l n (i+(([]:LB_).length+2+(comB.length+2))) (by simp only [List.length_append,List.length_cons,List.length_nil] at hn;omega) (fun x hx=>ho x (List.mem_cons_of_mem _ hx)) ha;obtain ⟨t2,h3,h4⟩:=split_one fine_nil (clos_plain _ com_ok.2.2.2.2) com_ok.1 com_ok.2.1 h1
  refine ⟨t2,h3,?_⟩
  rw [h4,com_ok.2.2.1,com_ok.2.2.2.1,h2]
  rfl
 | .t s::[],n+1,i,hn,ho,ha=>by
  obtain ⟨hs,hf⟩:s≠[]/\∀ c ∈ s,c≠123:=ho _ (List.mem_cons_self ..)
  have e:flatP [.t s]=s:=by simp [flatP,Pc.flat]
  rw [e]
  refine ⟨_,splitM_plain (fine_text hf).1,?_⟩
  rw [ahead_false,pairs_txt hs]
  rfl
 | .t s:: .t s2::l,n+1,i,hn,ho,ha=>by exact absurd ha id
 | .t s:: .a p b::l,n+1,i,hn,ho,ha=>by
  obtain ⟨hs,hf⟩:s≠[]/\∀ c ∈ s,c≠123:=ho _ (List.mem_cons_self ..);obtain ⟨hp,hb⟩:Blk_ p/\BodyOk b:=ho _ (List.mem_cons_of_mem _ (List.mem_cons_self ..))
  have e:flatP (.t s:: .a p b::l)=s++123::123::((p++(b++p))++125::125::flatP l):=by simp [flatP,Pc.flat]
  rw [e] at hn ⊢;obtain ⟨toks,h1,h2⟩:=split_pcs l n (i+(s.length+2+((p++(b++p)).length+2))) (by simp only [List.length_append,List.length_cons] at hn;omega) (fun x hx=>ho x (List.mem_cons_of_mem _ (List.mem_cons_of_mem _ hx))) ha;obtain ⟨t2,h3,h4⟩:=split_one (fine_text hf) (clos_pad hp hb) (hb.dl p hp) (hb.dr p hp) h1
  refine ⟨t2,h3,?_⟩
  rw [h4,hb.bd p hp,hb.nc,h2,if_neg hs]
  rfl
 | .t s:: .c::l,n+1,i,hn,ho,ha=>by
  obtain ⟨hs,hf⟩:s≠[]/\∀ c ∈ s,c≠123:=ho _ (List.mem_cons_self ..)
  have e:flatP (.t s:: .c::l)=s++123::123::(comB++125::125::flatP l):=by simp [flatP,Pc.flat]
  rw [e] at hn ⊢;obtain ⟨toks,h1,h2⟩:=split_pcs l n (i+(s.length+2+(comB.length+2))) (by simp only [List.length_append,List.length_cons] at hn;omega) (fun x hx=>ho x (List.mem_cons_of_mem _ (List.mem_cons_of_mem _ hx))) ha;obtain ⟨t2,h3,h4⟩:=split_one (fine_text hf) (clos_plain _ com_ok.2.2.2.2) com_ok.1 com_ok.2.1 h1
  refine ⟨t2,h3,?_⟩
  rw [h4,com_ok.2.2.1,com_ok.2.2.2.1,h2,if_neg hs]
  rfl
def Sk (b:LB_):Prop:=∀ r,r≠[]->clos false (b++r)=(clos false r).map (·+b.length)
theorem Sk.nil:Sk []:=fun r _=>by cases h:clos false r <;>simp [h]
theorem Sk.app {a b:LB_} (ha:Sk a) (hb:Sk b):Sk (a++b):=fun r hr=>by
 rw [List.append_assoc,ha _ (by simp [hr]),hb r hr,map_map,List.length_append,Nat.add_comm b.length]
theorem Sk.plain {b:LB_} (h:∀ x ∈ b,x≠34/\x≠125):Sk b:=fun _ hr=>clos_skip h hr
theorem Sk.quote (s:LB_):Sk (quoteL s):=fun r hr=>by
 have e:quoteL s++r=34::(escL s++(34::r)):=by simp [quoteL]
 rw [e,clos_quote (by simp),clos_esc s (by simp),clos_unquote hr,map_map,map_map]
 congr 1
 funext k
 simp only [quoteL,List.length_cons,List.length_append,List.length_nil]
 omega
theorem Sk.cons {c:UInt8} {b:LB_} (hc:c≠34/\c≠125) (hb:Sk b):Sk (c::b):=Sk.app (a:=[c]) (Sk.plain (fun x hx=>by rw [List.mem_singleton.1 hx];exact hc)) hb
def Hd (b:LB_):Prop:=∃ c t,b=c::t/\c ∉ blanks/\c≠47/\(c=45->∃ e u,t=e::u/\e≠32)
def La (b:LB_):Prop:=∃ t z,b=t++[z]/\z ∉ blanks/\z≠45
theorem Hd.app {a:LB_} (h:Hd a) (b:LB_):Hd (a++b):=by
 obtain ⟨c,t,rfl,h1,h2,h3⟩:=h
 exact ⟨c,t++b,rfl,h1,h2,fun e=>by obtain ⟨x,u,rfl,hx⟩:=h3 e;exact ⟨x,u++b,rfl,hx⟩⟩
theorem La.app {b:LB_} (a:LB_) (h:La b):La (a++b):=by
 obtain ⟨t,z,rfl,h1,h2⟩:=h
 exact ⟨a++t,z,by simp,h1,h2⟩
theorem Hd.of {c:UInt8} {t:LB_} (h1:c ∉ blanks) (h2:c≠47) (h3:c≠45):Hd (c::t):=⟨c,t,rfl,h1,h2,fun e=>absurd e h3⟩
theorem dropWhile_all {p:UInt8->Bool} {l r:LB_} (h:∀ x ∈ l,p x=true):(l++r).dropWhile p=r.dropWhile p:=by
 induction l with
 | nil=>rfl
 | cons a l ih=>rw [List.cons_append,List.dropWhile_cons,if_pos (h a (List.mem_cons_self ..))];exact ih (fun x hx=>h x (List.mem_cons_of_mem _ hx))
theorem bodyOk_of {b:LB_} (hs:Sk b) (hh:Hd b) (hl:La b):BodyOk b:=by
 obtain ⟨c,t,hb,h1,h2,h3⟩:=hh;obtain ⟨u,z,hz,h4,h5⟩:=hl
 have hdl:∀ p,Blk_ p->dashL (p++(b++p))=false:=fun p hp=>by
  cases p with
  | nil=>
   rw [List.nil_append,List.append_nil,hb]
   by_cases hc:c=45
   ·obtain ⟨e,v,rfl,he⟩:=h3 hc
    subst hc
    simp [dashL,Lib.hasPrefix,List.isPrefixOf,Ne.symm he]
   ·simp [dashL,Lib.hasPrefix,List.isPrefixOf,hc,Ne.symm hc]
  | cons a p=>
   have ha:a≠45:=by rcases blank_cases (hp a (List.mem_cons_self ..)) with rfl | rfl | rfl <;>decide
   simp [dashL,Lib.hasPrefix,List.isPrefixOf,ha,Ne.symm ha]
 have hdr:∀ p,Blk_ p->dashR (p++(b++p))=false:=fun p hp=>by
  unfold dashR raw1;rw [hdl p hp]
  simp only [Bool.false_eq_true,if_false]
  cases hsx:Lib.hasSuffix (p++(b++p)) [32,45] with
  | false=>rfl
  | true=>
   exfalso
   have h:[32,45] <:+(p++(b++p)):=by simpa [Lib.hasSuffix] using hsx
   obtain ⟨w,hw⟩:=h;have hlast:=congrArg List.getLast? hw;rw [show w++[32,45]=(w++[32])++[45] from by simp,List.getLast?_append] at hlast
   simp only [List.getLast?_singleton,Option.some_or] at hlast
   cases hpl:p.getLast? with
   | none=>
    have:p=[]:=by simpa using hpl
    subst this;rw [List.nil_append,List.append_nil,hz,List.getLast?_append] at hlast
    simp at hlast
    exact h5 hlast.symm
   | some y=>
    have hy:y ∈ p:=List.mem_of_getLast? hpl;rw [List.getLast?_append,List.getLast?_append,hpl] at hlast
    simp at hlast
    rcases blank_cases (hp y hy) with e | e | e <;>(rw [e] at hlast;revert hlast;decide)
 refine ⟨hs,hdl,hdr,fun p hp=>?_,?_⟩
 ·have hr2:raw2 (p++(b++p))=p++(b++p):=by unfold raw2 raw1;rw [hdr p hp,hdl p hp];rfl
  have hpb:∀ x ∈ p,(decide (x ∈ blanks))=true:=fun x hx=>decide_eq_true (hp x hx)
  unfold body;rw [hr2];unfold Lib.trimS
  have e1:Lib.trimRightS (p++(b++p)) blanks=p++b:=by
   unfold Lib.trimRightS;rw [List.reverse_append,List.reverse_append,List.append_assoc];rw [dropWhile_all (fun x hx=>by simpa using hp x (by simpa using hx))];rw [hz,List.reverse_append,List.reverse_singleton];rw [show ([z]++u.reverse++p.reverse)=z::(u.reverse++p.reverse) from by simp,List.dropWhile_cons,if_neg (by simpa using h4)]
   simp
  rw [e1];unfold Lib.trimLeftS;rw [dropWhile_all (fun x hx=>by simpa using hp x hx),hb,List.dropWhile_cons,if_neg (by simpa using h1)]
 ·rw [hb]
  simp [comment,Lib.hasPrefix,List.isPrefixOf,Ne.symm h2]
theorem npart_not {c:UInt8} (h:npartB c=true):c ∉ blanks/\c≠34/\c≠45/\c≠125/\c≠123/\c≠47:=by
 have key:(List.range 256).all (fun n=>!(npartB (UInt8.ofNat n)) || (decide (UInt8.ofNat n ∉ blanks) && (UInt8.ofNat n !=34) && (UInt8.ofNat n !=45) && (UInt8.ofNat n !=125) && (UInt8.ofNat n !=123) && (UInt8.ofNat n !=47)))=true:=by decide+kernel
 have hc:UInt8.ofNat c.toNat=c:=UInt8.ofNat_toNat
 have:=List.all_eq_true.1 key c.toNat (List.mem_range.2 (UInt8.toNat_lt c))
 rw [hc,h] at this
 simp only [Bool.not_true,Bool.false_or,Bool.and_eq_true,decide_eq_true_eq,bne_iff_ne,ne_eq] at this
 obtain ⟨⟨⟨⟨⟨a1,a2⟩,a3⟩,a4⟩,a5⟩,a6⟩:=this
 exact ⟨a1,a2,a3,a4,a5,a6⟩
structure Wd (b:LB_):Prop where
 sk:Sk b
 hd:Hd b
 la:La b
theorem Wd.two {a b:LB_} (ha:Wd a) (hb:Wd b) {m:LB_} (hm:Sk m):Wd (a++(m++b)):=⟨ha.sk.app (hm.app hb.sk),ha.hd.app _,by rw [<-List.append_assoc];exact hb.la.app _⟩
theorem name_all {l:LB_} (h:nameL l=true):∀ c ∈ l,npartB c=true:=by
 obtain ⟨c,t,rfl,h1,h2, -⟩:=name_parts h;intro x hx
 rcases List.mem_cons.1 hx with rfl | hx
 ·exact npart_of h1
 ·exact List.all_eq_true.1 h2 x hx
theorem sk_parts {l:LB_} (h:∀ c ∈ l,npartB c=true):Sk l:=Sk.plain (fun x hx=>⟨(npart_not (h x hx)).2.1,(npart_not (h x hx)).2.2.2.1⟩)
theorem la_parts {l:LB_} (h:∀ c ∈ l,npartB c=true) (hn:l≠[]):La l:=
 ⟨l.dropLast,l.getLast hn,(List.dropLast_concat_getLast hn).symm,(npart_not (h _ (List.getLast_mem hn))).1,(npart_not (h _ (List.getLast_mem hn))).2.2.1⟩
theorem wd_name {l:LB_} (h:nameL l=true):Wd l:=by
 obtain ⟨c,t,e,h1,h2, -⟩:=name_parts h;obtain ⟨a1,a2,a3,a4,a5,a6,a7,a8,a9,a10, -⟩:=nlet_not h1
 exact ⟨sk_parts (name_all h),by rw [e];exact Hd.of a1 a10 a3,la_parts (name_all h) (by rw [e];simp)⟩
theorem sk_steps {l:List ByteArray} (h:∀ s ∈ l,nameL s.data.toList=true):Sk (stepsW l):=by
 induction l with
 | nil=>exact Sk.nil
 | cons s l ih=>rw [stepsW_cons];exact Sk.cons (by decide) ((sk_parts (name_all (h s (List.mem_cons_self ..)))).app (ih (fun x hx=>h x (List.mem_cons_of_mem _ hx))))
theorem la_steps {l:List ByteArray} (h:∀ s ∈ l,nameL s.data.toList=true) (hn:l≠[]):La (stepsW l):=by
 induction l with
 | nil=>exact absurd rfl hn
 | cons s l ih=>
  rw [stepsW_cons]
  show La ([46]++(s.data.toList++stepsW l))
  refine La.app _ ?_
  by_cases hl:l=[]
  ·subst hl
   rw [show stepsW []=[] from rfl,List.append_nil]
   exact (wd_name (h s (List.mem_cons_self ..))).la
  ·exact La.app _ (ih (fun x hx=>h x (List.mem_cons_of_mem _ hx)) hl)
theorem wd_lit {x:Ex} (ho:OwnX x) (hk:x.kind=0):Wd (litW x.val):=by
 have small:∀ l:LB_,nameL l=true->Wd l:=fun l h=>wd_name h
 rcases (ho.lit hk).1 with h | ⟨b,h⟩ | ⟨n,h, -⟩ | ⟨s,h⟩
 ·rw [h];exact small [110,105,108] (by decide)
 ·rw [h];cases b
  ·exact small falseW (by decide)
  ·exact small trueW (by decide)
 ·rw [h]
  show Wd (Lib.itoa n)
  have hdig:∀ l:LB_,l.all digitB=true->∀ c ∈ l,npartB c=true:=fun l hl c hc=>by unfold npartB;rw [List.all_eq_true.1 hl c hc,Bool.or_true]
  unfold Lib.itoa
  split
  ·have h1:=dec_digits _ n.natAbs (Nat.le_refl _)
   obtain ⟨c,r,e,hc⟩:=dec_head n.natAbs
   exact ⟨Sk.cons (by decide) (sk_parts (hdig _ h1)),⟨45,_,rfl,by decide,by decide,fun _=>⟨c,r,e,fun e32=>by subst e32;revert hc;decide⟩⟩,La.app [45] (la_parts (hdig _ h1) (dec_ne _))⟩
  ·have h1:=dec_digits _ n.toNat (Nat.le_refl _)
   obtain ⟨c,r,e,hc⟩:=dec_head n.toNat;have hp:=npart_not (hdig _ h1 c (by rw [e];exact List.mem_cons_self ..))
   exact ⟨sk_parts (hdig _ h1),by rw [e];exact Hd.of hp.1 hp.2.2.2.2.2 hp.2.2.1,la_parts (hdig _ h1) (dec_ne _)⟩
 ·rw [h]
  show Wd (quoteL s.data.toList)
  exact ⟨Sk.quote _,Hd.of (c:=34) (by decide) (by decide) (by decide),⟨34::escL s.data.toList,34,by simp [quoteL],by decide,by decide⟩⟩
theorem sk_gap (L:LB_) (a:Nat):Sk (gapW L a).1:=Sk.plain (fun x hx=>by rcases blank_cases ((gap_blk L a).1 x hx) with rfl | rfl | rfl <;>decide)
def WdOk (L:LB_) (n:Nat):Prop:=∀ (d:Nat) (x:Ex) (a:Nat),RightX d x->d+1<=n->Wd (pipW L n x a).1
theorem wd_low {L:LB_} {n:Nat} {x:Ex} {a:Nat} (ho:OwnX x) (hk:x.kind≠3):Wd (opW L (pipW L n) x a).1:=by
 unfold opW
 rcases ho.kind with h | h | h | h
 ·rw [if_pos h];exact wd_lit ho h
 ·rw [if_neg (by omega),if_pos h]
  show Wd (if x.steps=[] then [46] else stepsW x.steps)
  split
  ·exact ⟨Sk.plain (by decide),Hd.of (by decide) (by decide) (by decide),⟨[],46,rfl,by decide,by decide⟩⟩
  ·next hne=>
   cases hs:x.steps with
   | nil=>exact absurd hs hne
   | cons s l=>
    rw [<-hs]
    exact ⟨sk_steps ho.steps,by rw [hs,stepsW_cons];exact Hd.of (by decide) (by decide) (by decide),la_steps ho.steps hne⟩
 ·rw [if_neg (by omega),if_neg (by omega),if_pos h]
  have hn:=wd_name (ho.var h).1
  refine ⟨Sk.cons (by decide) (hn.sk.app (sk_steps ho.steps)),Hd.of (by decide) (by decide) (by decide),?_⟩
  show La ([36]++(x.name.data.toList++stepsW x.steps))
  refine La.app _ ?_
  by_cases hs:x.steps=[]
  ·rw [hs,show stepsW []=[] from rfl,List.append_nil];exact hn.la
  ·exact La.app _ (la_steps ho.steps hs)
 ·exact absurd h hk
theorem wd_op {L:LB_} {n d:Nat} (hP:WdOk L n) {x:Ex} {a:Nat} (hx:RightX d x) (hn:d+1<=n):Wd (opW L (pipW L n) x a).1:=by
 have br:∀ a',Wd (40::((pipW L n x a').1++[41])):=fun a'=>
  ⟨Sk.cons (by decide) ((hP d x a' hx hn).sk.app (Sk.plain (by decide))),Hd.of (by decide) (by decide) (by decide),⟨40::(pipW L n x a').1,41,by simp,by decide,by decide⟩⟩
 by_cases hk:x.kind=3
 ·unfold opW
  rw [if_neg (by omega),if_neg (by omega),if_neg (by omega)]
  split
  ·split
   ·exact wd_name (hx.own.call hk).1
   ·exact br _
  ·exact br _
 ·exact wd_low hx.own hk
theorem wd_args {L:LB_} {n d:Nat} (hP:WdOk L n) (hn:d+1<=n) {h:LB_} (hh:Wd h):∀ (l:List Ex) (a:Nat),(∀ y ∈ l,RightX d y)->Wd (h++(argsW L (pipW L n) l a).1)
 | [],a,_=>by show Wd (h++[]);rw [List.append_nil];exact hh
 | y::l,a,hl=>by
  have h1:=wd_op hP (a:=(gapW L a).2) (hl y (List.mem_cons_self ..)) hn;have h2:=wd_args hP hn (Wd.two hh h1 (sk_gap L a)) l (opW L (pipW L n) y (gapW L a).2).2 (fun z hz=>hl z (List.mem_cons_of_mem _ hz));rw [argsW]
  simpa [List.append_assoc] using h2
theorem wd_pip (L:LB_):∀ n,WdOk L n
 | 0=>fun d x a hx hn=>by omega
 | n+1=>by
  have hP:=wd_pip L n;intro d x a hx hn;have ho:=hx.own;unfold pipW
  by_cases hk:x.kind=3
  ·rw [if_neg (fun h=>h hk)]
   have hname:=wd_name (ho.call hk).1
   have call:∀ (l:List Ex) (a':Nat) (h:LB_),(∀ y ∈ l,y ∈ x.args)->Wd h->Wd (h++(argsW L (pipW L n) l a').1):=fun l a' h hl hh=>by
    by_cases he:l=[]
    ·subst he;show Wd (h++[]);rw [List.append_nil];exact hh
    ·have hdp:0 < d:=hx.deep.resolve_left (fun e=>by
      cases l with
      | nil=>exact he rfl
      | cons y l=>have:=hl y (List.mem_cons_self ..);rw [e] at this;cases this)
     exact wd_args hP (d:=d - 1) (by omega) hh l a' (fun y hy=>hx.args y (hl y hy))
   cases hl:x.args.getLast? with
   | none=>
    simp only
    unfold callW;rw [List.nil_append]
    exact call [] a _ (fun y hy=>by cases hy) hname
   | some y=>
    simp only
    by_cases hp:(pickW L a 3).1=1
    ·rw [if_pos hp]
     have hcat:=last_cat hl
     have hy:y ∈ x.args:=by rw [<-hcat];simp
     have hdp:0 < d:=hx.deep.resolve_left (fun e=>by rw [e] at hy;cases hy);have h1:=hP (d - 1) y (pickW L a 3).2 (hx.args y hy) (by omega);unfold callW;have hm:Sk ((gapW L (pipW L n y (pickW L a 3).2).2).1++(124::(gapW L (gapW L (pipW L n y (pickW L a 3).2).2).2).1)):=(sk_gap L _).app (Sk.cons (by decide) (sk_gap L _));have h2:=call x.args.dropLast (gapW L (gapW L (pipW L n y (pickW L a 3).2).2).2).2 _ (fun z hz=>by rw [<-hcat];exact List.mem_append_left _ hz) (Wd.two h1 hname hm)
     simpa [List.append_assoc] using h2
    ·rw [if_neg hp]
     unfold callW;rw [List.nil_append]
     exact call x.args _ _ (fun y hy=>hy) hname
  ·rw [if_pos hk]
   exact wd_low ho hk
structure IrrN (n:Nat):Prop where
 no:∀ (out:List Nd) (m:Mk) (k:Nat),2*m.rest.length+1<=n->n<=k->nodesF k out m=nodesF n out m
 bl:∀ (w s:LB_) (m:Mk) (k:Nat),2*m.rest.length+2<=n->n<=k->blockF k w s m=blockF n w s m
theorem irrN (n:Nat):IrrN n:=by
 induction n with
 | zero=>exact ⟨fun out m k h=>by omega,fun w s m k h=>by omega⟩
 | succ n ih=>
  refine ⟨fun out m k h hk=>?_,fun w s m k h hk=>?_⟩
  all_goals obtain ⟨k,rfl⟩:∃ j,k=j+1:=⟨k - 1,by omega⟩
  all_goals have hnk:n<=k:=by omega
  ·obtain ⟨rest,d,b⟩:=m
   rw [nodesF,nodesF]
   simp only at h ⊢
   cases rest with
   | nil=>rfl
   | cons t ts=>
    simp only [List.length_cons] at h ⊢
    have go:∀ (o:List Nd) (m2:Mk),m2.rest.length<=ts.length->nodesF k o m2=nodesF n o m2:=fun o m2 h2=>ih.no o m2 k (by omega) hnk
    by_cases h1:t.act=false
    ·rw [if_pos h1,if_pos h1]
     exact go _ _ (Nat.le_refl _)
    ·rw [if_neg h1,if_neg h1]
     by_cases h2:wordL t.s=endW\/wordL t.s=elseW
     ·rw [if_pos h2,if_pos h2]
     ·rw [if_neg h2,if_neg h2]
      by_cases h3:wordL t.s=ifW\/wordL t.s=withW\/wordL t.s=rangeW\/wordL t.s=defineW
      ·rw [if_pos h3,if_pos h3,ih.bl (wordL t.s) (nameD t.s) ⟨ts,d,b⟩ k (by show 2*ts.length+2<=n;omega) hnk]
       exact go _ _ ((nodes_le n).2 _ _ _).len
      ·rw [if_neg h3,if_neg h3]
       by_cases h4:(setL t.s).2.2=true
       ·rw [if_pos h4,if_pos h4]
        exact go _ _ (mpipe_le _ _).len
       ·rw [if_neg h4,if_neg h4]
        exact go _ _ (mpipe_le _ _).len
  ·obtain ⟨rest,d,b⟩:=m
   rw [blockF,blockF]
   simp only at h ⊢
   by_cases hd:16 < d+1
   ·rw [if_pos hd,if_pos hd]
   ·rw [if_neg hd,if_neg hd]
    have h1:(headF w s ⟨rest,d+1,b⟩).2.rest.length<=rest.length:=(headF_le w s ⟨rest,d+1,b⟩).len;have e:=ih.no [] (headF w s ⟨rest,d+1,b⟩).2 k (by omega) hnk;have hl:=(nodes_le n).1 [] (headF w s ⟨rest,d+1,b⟩).2;rw [e];obtain ⟨X,hX⟩:∃ z,z=nodesF n [] (headF w s ⟨rest,d+1,b⟩).2:=⟨_,rfl⟩;rw [<-hX] at hl ⊢;have hl1:=hl.1.len
    by_cases c1:X.1.stop=elseW/\w=ifW/\wordL (skipB X.1.rest)=ifW
    ·have hst:=hl.2 (by rw [c1.1];decide)
     rw [if_pos c1,if_pos c1,ih.bl ifW (nameD (skipB X.1.rest)) X.2 k (by omega) hnk]
    ·rw [if_neg c1,if_neg c1]
     by_cases c2:X.1.stop=elseW/\w≠defineW/\skipB X.1.rest=[]
     ·rw [if_pos c2,if_pos c2,ih.no [] X.2 k (by omega) hnk]
     ·rw [if_neg c2,if_neg c2]
def noX (out:List Nd) (m:Mk):Stop × Mk:=nodesF (2*m.rest.length+1) out m
def blX (w s:LB_) (m:Mk):Nd × Mk:=blockF (2*m.rest.length+2) w s m
theorem no_is {out:List Nd} {m:Mk} {n:Nat} (h:2*m.rest.length+1<=n):nodesF n out m=noX out m:=(irrN _).no out m n (Nat.le_refl _) h
theorem bl_is {w s:LB_} {m:Mk} {n:Nat} (h:2*m.rest.length+2<=n):blockF n w s m=blX w s m:=(irrN _).bl w s m n (Nat.le_refl _) h
theorem noX_nil {out:List Nd} {d b:Int}:noX out ⟨[],d,b⟩=(⟨out,[],[]⟩,⟨[],d,b⟩):=rfl
theorem noX_text {out:List Nd} {t:Tok} {ts:List Tok} {d b:Int} (h:t.act=false):noX out ⟨t::ts,d,b⟩=noX (out++[.mk 0 (bs t.s) Ex.zero ⟨#[]⟩ ⟨#[]⟩ [] []]) ⟨ts,d,b⟩:=by
 unfold noX;rw [nodesF]
 simp only
 rw [if_pos h]
 exact no_is (by simp only [List.length_cons];omega)
theorem noX_stop {out:List Nd} {t:Tok} {ts:List Tok} {d b:Int} (h:t.act=true) (hw:wordL t.s=endW\/wordL t.s=elseW):noX out ⟨t::ts,d,b⟩=(⟨out,wordL t.s,nameD t.s⟩,⟨ts,d,b⟩):=by
 unfold noX;rw [nodesF]
 simp only
 rw [if_neg (by rw [h];decide),if_pos hw]
theorem noX_block {out:List Nd} {t:Tok} {ts:List Tok} {d b:Int} (h:t.act=true) (hw:wordL t.s=ifW\/wordL t.s=withW\/wordL t.s=rangeW\/wordL t.s=defineW):noX out ⟨t::ts,d,b⟩=noX (out++[(blX (wordL t.s) (nameD t.s) ⟨ts,d,b⟩).1]) (blX (wordL t.s) (nameD t.s) ⟨ts,d,b⟩).2:=by
 have hne:¬ (wordL t.s=endW\/wordL t.s=elseW):=by
  rintro (e | e) <;>rcases hw with h9 | h9 | h9 | h9 <;>(rw [e] at h9;revert h9;decide)
 have hle:(blX (wordL t.s) (nameD t.s) ⟨ts,d,b⟩).2.rest.length<=ts.length:=((nodes_le _).2 _ _ _).len
 conv=>lhs;unfold noX
 rw [nodesF]
 simp only
 rw [if_neg (by rw [h];decide),if_neg hne,if_pos hw,bl_is (by simp only [List.length_cons];omega)]
 exact no_is (by simp only [List.length_cons];omega)
def ownWord (w:LB_):Prop:=w=endW\/w=elseW\/w=ifW\/w=withW\/w=rangeW\/w=defineW
theorem noX_let {out:List Nd} {t:Tok} {ts:List Tok} {d b:Int} {nm:ByteArray} {s:LB_} {x:Ex} (h:t.act=true) (hw:¬ ownWord (wordL t.s)) (hs:setL t.s=(nm,s,true)) (hx:allF s=(x,0)):noX out ⟨t::ts,d,b⟩=noX (out++[.mk 5 ⟨#[]⟩ x ⟨#[]⟩ nm [] []]) ⟨ts,d,b⟩:=by
 have hm:mpipe ⟨ts,d,b⟩ s=(x,⟨ts,d,b⟩):=by unfold mpipe;rw [hx];rfl
 conv=>lhs;unfold noX
 rw [nodesF]
 simp only
 rw [if_neg (by rw [h];decide),if_neg (fun e=>hw (by unfold ownWord;rcases e with e | e <;>simp [e])),if_neg (fun e=>hw (by unfold ownWord;rcases e with e | e | e | e <;>simp [e])),hs]
 simp only [if_true]
 rw [hm]
 exact no_is (by simp only [List.length_cons];omega)
theorem noX_out {out:List Nd} {t:Tok} {ts:List Tok} {d b:Int} {x:Ex} (h:t.act=true) (hw:¬ ownWord (wordL t.s)) (hs:(setL t.s).2.2=false) (hx:allF t.s=(x,0)):noX out ⟨t::ts,d,b⟩=noX (out++[.mk 1 ⟨#[]⟩ x ⟨#[]⟩ ⟨#[]⟩ [] []]) ⟨ts,d,b⟩:=by
 have hm:mpipe ⟨ts,d,b⟩ t.s=(x,⟨ts,d,b⟩):=by unfold mpipe;rw [hx];rfl
 conv=>lhs;unfold noX
 rw [nodesF]
 simp only
 rw [if_neg (by rw [h];decide),if_neg (fun e=>hw (by unfold ownWord;rcases e with e | e <;>simp [e])),if_neg (fun e=>hw (by unfold ownWord;rcases e with e | e | e | e <;>simp [e])),hs]
 simp only [Bool.false_eq_true,if_false]
 rw [hm]
 exact no_is (by simp only [List.length_cons];omega)
theorem blX_eq {w s:LB_} {rest:List Tok} {d b:Int} {hd:Nd} {hm:Mk} {X:Stop × Mk} (h16:¬ 16 < d+1) (hh:headF w s ⟨rest,d+1,b⟩=(hd,hm)) (hX:noX [] hm=X):blX w s ⟨rest,d,b⟩=
  if X.1.stop=elseW/\w=ifW/\wordL (skipB X.1.rest)=ifW then ((hd.setBody X.1.out).setEls [(blX ifW (nameD (skipB X.1.rest)) X.2).1],(blX ifW (nameD (skipB X.1.rest)) X.2).2.up)
  else if X.1.stop=elseW/\w≠defineW/\skipB X.1.rest=[] then ((hd.setBody X.1.out).setEls (noX [] X.2).1.out,(if (noX [] X.2).1.stop≠endW\/skipB (noX [] X.2).1.rest≠[] then (noX [] X.2).2.fail 21 else (noX [] X.2).2).up)
  else (hd.setBody X.1.out,(if X.1.stop≠endW\/skipB X.1.rest≠[] then X.2.fail 21 else X.2).up):=by
 have h1:hm.rest.length<=rest.length:=by have h9:=(headF_le w s ⟨rest,d+1,b⟩).len;rw [hh] at h9;exact h9
 have e:nodesF (2*rest.length+1) [] hm=X:=by rw [<-hX];exact no_is (by omega)
 have hl:=(nodes_le (2*rest.length+1)).1 [] hm;rw [e] at hl;have hl1:=hl.1.len
 conv=>lhs;unfold blX
 rw [blockF]
 simp only
 rw [if_neg h16,hh]
 simp only
 rw [e]
 by_cases c1:X.1.stop=elseW/\w=ifW/\wordL (skipB X.1.rest)=ifW
 ·have hst:=hl.2 (by rw [c1.1];decide)
  rw [if_pos c1,if_pos c1,bl_is (by omega)]
 ·rw [if_neg c1,if_neg c1]
  by_cases c2:X.1.stop=elseW/\w≠defineW/\skipB X.1.rest=[]
  ·rw [if_pos c2,if_pos c2,no_is (by omega)]
  ·rw [if_neg c2,if_neg c2]
theorem blX_end {w s:LB_} {rest:List Tok} {d b:Int} {hd:Nd} {hm m2:Mk} {out:List Nd} (h16:¬ 16 < d+1) (hh:headF w s ⟨rest,d+1,b⟩=(hd,hm)) (hX:noX [] hm=(⟨out,endW,[]⟩,m2)):blX w s ⟨rest,d,b⟩=(hd.setBody out,m2.up):=by
 rw [blX_eq h16 hh hX,if_neg (fun e=>absurd (show endW=elseW from e.1) (by decide)),if_neg (fun e=>absurd (show endW=elseW from e.1) (by decide)),if_neg (by rintro (e | e);exact e rfl;exact e rfl)]
theorem blX_else {w s:LB_} {rest:List Tok} {d b:Int} {hd:Nd} {hm m2 m3:Mk} {out els:List Nd} (h16:¬ 16 < d+1) (hh:headF w s ⟨rest,d+1,b⟩=(hd,hm)) (hw:w≠defineW) (hX:noX [] hm=(⟨out,elseW,[]⟩,m2)) (hY:noX [] m2=(⟨els,endW,[]⟩,m3)):blX w s ⟨rest,d,b⟩=((hd.setBody out).setEls els,m3.up):=by
 rw [blX_eq h16 hh hX,if_neg (fun e=>absurd (show wordL (skipB [])=ifW from e.2.2) (by decide)),if_pos ⟨rfl,hw,rfl⟩]
 simp only
 rw [hY,if_neg (by rintro (e | e);exact e rfl;exact e rfl)]
theorem blX_elif {s r:LB_} {rest:List Tok} {d b:Int} {hd:Nd} {hm m2:Mk} {out:List Nd} (h16:¬ 16 < d+1) (hh:headF ifW s ⟨rest,d+1,b⟩=(hd,hm)) (hX:noX [] hm=(⟨out,elseW,r⟩,m2)) (hr:wordL (skipB r)=ifW):blX ifW s ⟨rest,d,b⟩=((hd.setBody out).setEls [(blX ifW (nameD (skipB r)) m2).1],(blX ifW (nameD (skipB r)) m2).2.up):=by
 rw [blX_eq h16 hh hX,if_pos ⟨rfl,rfl,hr⟩]
end Go.Proofs.YtnblmhfgmehnnaaGreatDoor
namespace Go.Proofs.YtnblmhfgmehnnaaGreatDoor
def pads:List (LB_):=[[32],[],[32,32],[10]]
def actW (L:LB_) (b:LB_) (a:Nat):List Pc × Nat:=
 (.a (pads.getD (pickW L a 4).1 [32]) b::(if (pickW L (pickW L a 4).2 3).1=2 then [.c] else []),(pickW L (pickW L a 4).2 3).2)
def wrW (node:Nd->Nat->List Pc × Nat):List Nd->Nat->List Pc × Nat
 | [],a=>([],a)
 | x::l,a=>((node x a).1++(wrW node l (node x a).2).1,(wrW node l (node x a).2).2)
def kwW (k:Int):LB_:=if k=2 then ifW else if k=3 then withW else rangeW
def letW (L:LB_) (nm:LB_) (a:Nat):LB_ × Nat:=
 (36::(nm++((gapW L a).1++(58::61::(gapW L (gapW L a).2).1))),(gapW L (gapW L a).2).2)
def midW (L:LB_) (x:Nd) (a:Nat):LB_ × Nat:=
 if x.kind=4 then
  if x.key≠⟨#[]⟩ then ((gapW L a).1++(36::(x.key.data.toList++(44::((gapW L (gapW L a).2).1++(letW L x.name.data.toList (gapW L (gapW L a).2).2).1)))),(letW L x.name.data.toList (gapW L (gapW L a).2).2).2)
  else if x.name≠⟨#[]⟩ then ((gapW L a).1++(letW L x.name.data.toList (gapW L a).2).1,(letW L x.name.data.toList (gapW L a).2).2)
  else gapW L a
 else gapW L a
def headW (L:LB_) (x:Nd) (a:Nat):LB_ × Nat:=
 (kwW x.kind++((midW L x a).1++(pipW L 7 x.x (midW L x a).2).1),(pipW L 7 x.x (midW L x a).2).2)
def setW (L:LB_) (x:Nd) (a:Nat):LB_ × Nat:=
 ((letW L x.name.data.toList a).1++(pipW L 7 x.x (letW L x.name.data.toList a).2).1,(pipW L 7 x.x (letW L x.name.data.toList a).2).2)
def defW (L:LB_) (x:Nd) (a:Nat):LB_ × Nat:=(defineW++((gapW L a).1++quoteL x.name.data.toList),(gapW L a).2)
def blkW (L:LB_) (h:LB_ × Nat) (body:Nat->List Pc × Nat) (rest:Nat->List Pc × Nat):List Pc × Nat:=
 ((actW L h.1 h.2).1++((body (actW L h.1 h.2).2).1++(rest (body (actW L h.1 h.2).2).2).1),(rest (body (actW L h.1 h.2).2).2).2)
mutual
def ndW (L:LB_):Nat->Nd->Nat->List Pc × Nat
 | 0,_,a=>([],a)
 | n+1,x,a=>
  if x.kind=0 then ([.t x.text.data.toList],a)
  else if x.kind=1 then actW L (pipW L 7 x.x a).1 (pipW L 7 x.x a).2
  else if x.kind=5 then actW L (setW L x a).1 (setW L x a).2
  else if x.kind=6 then blkW L (defW L x a) (wrW (ndW L n) x.body) (actW L endW)
  else blkW L (headW L x a) (wrW (ndW L n) x.body) (otW L n x)
def otW (L:LB_):Nat->Nd->Nat->List Pc × Nat
 | 0,_,a=>([],a)
 | n+1,x,a=>
  match x.els with
  | []=>actW L endW a
  | [y]=>
   if x.kind=2/\y.kind=2 then
    if (pickW L a 2).1=1 then blkW L (elseW++((gapW L (pickW L a 2).2).1++(headW L y (gapW L (pickW L a 2).2).2).1),(headW L y (gapW L (pickW L a 2).2).2).2) (wrW (ndW L n) y.body) (otW L n y)
    else blkW L (elseW,(pickW L a 2).2) (wrW (ndW L n) [y]) (actW L endW)
   else blkW L (elseW,a) (wrW (ndW L n) [y]) (actW L endW)
  | l=>blkW L (elseW,a) (wrW (ndW L n) l) (actW L endW)
end
inductive FreeX:Ex->Prop
 | mk (x:Ex) (ho:x.kind=3->freeB x.name.data.toList=true) (ha:∀ y ∈ x.args,FreeX y):FreeX x
theorem FreeX.own {x:Ex} (h:FreeX x):x.kind=3->freeB x.name.data.toList=true:=by cases h;assumption
theorem FreeX.args {x:Ex} (h:FreeX x):∀ y ∈ x.args,FreeX y:=by cases h;assumption
structure OwnN (top:Prop) (x:Nd):Prop where
 kind:x.kind=0\/x.kind=1\/x.kind=2\/x.kind=3\/x.kind=4\/x.kind=5\/x.kind=6
 text:x.kind≠0->x.text=⟨#[]⟩
 key:x.kind≠4->x.key=⟨#[]⟩
 body:x.kind < 2\/x.kind=5->x.body=[]
 els:x.kind < 2\/4 < x.kind->x.els=[]
 txt:x.kind=0->x.text≠⟨#[]⟩/\(∀ c ∈ x.text.data.toList,c≠123)/\x.x=Ex.zero/\x.name=⟨#[]⟩
 none:x.kind=1\/x.kind=2\/x.kind=3->x.name=⟨#[]⟩
 range:x.kind=4->(x.key≠⟨#[]⟩->nameL x.key.data.toList=true/\x.name≠⟨#[]⟩)/\(x.name≠⟨#[]⟩->nameL x.name.data.toList=true)
 set:x.kind=5->nameL x.name.data.toList=true
 define:x.kind=6->nameL x.name.data.toList=true/\top/\x.x=Ex.zero
 expr:x.kind≠0->x.kind≠6->RightX 6 x.x/\FreeX x.x
def apartN:List Nd->Prop
 | x::y::l=>¬ (x.kind=0/\y.kind=0)/\apartN (y::l)
 | _=>True
inductive SoundN:Nat->Prop->Nd->Prop
 | mk (d:Nat) (top:Prop) (x:Nd) (ho:OwnN top x) (hd:(x.body=[]/\x.els=[])\/0 < d) (hb:∀ y ∈ x.body,SoundN (d - 1) False y) (hba:apartN x.body) (he:∀ y ∈ x.els,SoundN (d - 1) False y) (hea:apartN x.els):SoundN d top x
section
variable {d:Nat} {top:Prop} {x:Nd}
theorem SoundN.own (h:SoundN d top x):OwnN top x:=by cases h;assumption
theorem SoundN.deep (h:SoundN d top x):(x.body=[]/\x.els=[])\/0 < d:=by cases h;assumption
theorem SoundN.body (h:SoundN d top x):∀ y ∈ x.body,SoundN (d - 1) False y:=by cases h;assumption
theorem SoundN.els (h:SoundN d top x):∀ y ∈ x.els,SoundN (d - 1) False y:=by cases h;assumption
theorem SoundN.abody (h:SoundN d top x):apartN x.body:=by cases h;assumption
theorem SoundN.aels (h:SoundN d top x):apartN x.els:=by cases h;assumption
end
theorem pad_blk (L:LB_) (a:Nat):Blk_ (pads.getD (pickW L a 4).1 [32]):=by
 have h:=pickW_lt L a (n:=4) (by omega)
 have key:∀ k,k < 4->(pads.getD k [32]).all (fun c=>decide (c ∈ blanks))=true:=by decide
 exact fun c hc=>of_decide_eq_true (List.all_eq_true.1 (key _ h) c hc)
theorem kw_name (k:Int):nameL (kwW k)=true:=by
 unfold kwW
 split
 ·decide
 ·split <;>decide
theorem sk_let {L nm:LB_} {a:Nat} (h:nameL nm=true):Sk (letW L nm a).1:=
 Sk.cons (by decide) ((wd_name h).sk.app ((sk_gap L a).app (Sk.cons (by decide) (Sk.cons (by decide) (sk_gap L _)))))
theorem sk_mid {L:LB_} {x:Nd} {a:Nat} {top:Prop} (ho:OwnN top x):Sk (midW L x a).1:=by
 unfold midW
 split
 ·next h4=>
  obtain ⟨hk,hn⟩:=ho.range h4
  split
  ·next hkey=>exact (sk_gap L a).app (Sk.cons (by decide) ((wd_name (hk hkey).1).sk.app (Sk.cons (by decide) ((sk_gap L _).app (sk_let (hn (hk hkey).2))))))
  ·split
   ·next hname=>exact (sk_gap L a).app (sk_let (hn hname))
   ·exact sk_gap L a
 ·exact sk_gap L a
theorem body_pipe {L:LB_} {x:Ex} {a:Nat} (h:RightX 6 x):BodyOk (pipW L 7 x a).1:=
 have w:=wd_pip L 7 6 x a h (by omega)
 bodyOk_of w.sk w.hd w.la
theorem body_wd {b:LB_} (w:Wd b):BodyOk b:=bodyOk_of w.sk w.hd w.la
theorem wd_head {L:LB_} {x:Nd} {a:Nat} {top:Prop} (ho:OwnN top x) (hx:RightX 6 x.x):Wd (headW L x a).1:=
 Wd.two (wd_name (kw_name _)) (wd_pip L 7 6 _ _ hx (by omega)) (sk_mid ho)
theorem wd_set {L:LB_} {x:Nd} {a:Nat} (hn:nameL x.name.data.toList=true) (hx:RightX 6 x.x):Wd (setW L x a).1:=
 have w:=wd_pip L 7 6 x.x (letW L x.name.data.toList a).2 hx (by omega)
 ⟨(sk_let hn).app w.sk,by show Hd ((36::_)++_);exact (Hd.of (by decide) (by decide) (by decide)).app _,w.la.app _⟩
theorem wd_quote (s:LB_):Wd (quoteL s):=⟨Sk.quote _,Hd.of (c:=34) (by decide) (by decide) (by decide),⟨34::escL s,34,by simp [quoteL],by decide,by decide⟩⟩
theorem wd_def {L:LB_} {x:Nd} {a:Nat}:Wd (defW L x a).1:=Wd.two (wd_name (by decide)) (wd_quote _) (sk_gap L a)
theorem wd_end:Wd endW:=wd_name (by decide)
theorem wd_else:Wd elseW:=wd_name (by decide)
theorem apart_one {p:Pc} {l:List Pc} (h:apartP l) (hp:∀ s,p≠ .t s):apartP (p::l):=by
 cases p with
 | t s=>exact absurd rfl (hp s)
 | a p b=>exact h
 | c=>exact h
def startP:List Pc->Prop
 | .t _::_=>False
 | _=>True
theorem act_ok {L b:LB_} {a:Nat} (h:BodyOk b):(∀ p ∈ (actW L b a).1,p.ok)/\(∀ r,apartP r->apartP ((actW L b a).1++r))/\startP (actW L b a).1:=by
 unfold actW
 refine ⟨fun p hp=>?_,fun r hr=>?_,trivial⟩
 ·rcases List.mem_cons.1 hp with rfl | hp
  ·exact ⟨pad_blk L a,h⟩
  ·split at hp
   ·rw [List.mem_singleton.1 hp];trivial
   ·cases hp
 ·rw [List.cons_append]
  refine apart_one ?_ (fun s e=>by cases e)
  split
  ·exact apart_one hr (fun s e=>by cases e)
  ·exact hr
structure PcsOk (text:Prop) (l:List Pc):Prop where
 ok:∀ p ∈ l,p.ok
 apart:∀ r,apartP r->(text->startP r)->apartP (l++r)
 start:¬ text->startP l/\l≠[]
theorem start_app {l r:List Pc} (h:startP l/\l≠[]):startP (l++r):=by
 obtain ⟨h1,h2⟩:=h
 cases l with
 | nil=>exact absurd rfl h2
 | cons p l=>cases p <;>first | exact h1 | trivial
def NdOk (L:LB_) (n:Nat):Prop:=∀ (d:Nat) (top:Prop) (x:Nd) (a:Nat),SoundN d top x->2*d+2<=n->PcsOk (x.kind=0) (ndW L n x a).1
theorem wr_ok {node:Nd->Nat->List Pc × Nat}:∀ (l:List Nd) (a:Nat),(∀ x ∈ l,∀ a,PcsOk (x.kind=0) (node x a).1)->apartN l->(∀ p ∈ (wrW node l a).1,p.ok)/\(∀ r,apartP r->startP r->apartP ((wrW node l a).1++r))/\((∀ x l',l=x::l'->x.kind≠0)->∀ r,startP r->startP ((wrW node l a).1++r))
 | [],a,_,_=>⟨fun p hp=>absurd hp (by simp [wrW]),fun r h _=>h,fun _ r h=>h⟩
 | x::l,a,h,ha=>by
  have hx:=h x (List.mem_cons_self ..) a
  have hal:apartN l:=by cases l with | nil=>trivial | cons y l=>exact ha.2
  obtain ⟨h1,h2,h3⟩:=wr_ok l (node x a).2 (fun y hy=>h y (List.mem_cons_of_mem _ hy)) hal;rw [wrW]
  refine ⟨fun p hp=>?_,fun r hr hs=>?_,fun hk r hr=>?_⟩
  ·rcases List.mem_append.1 hp with hp | hp
   ·exact hx.ok p hp
   ·exact h1 p hp
  ·rw [List.append_assoc]
   refine hx.apart _ (h2 r hr hs) (fun ht=>?_)
   refine h3 (fun y l' e=>?_) r hs
   subst e
   exact fun hy=>ha.1 ⟨ht,hy⟩
  ·rw [List.append_assoc]
   exact start_app (hx.start (hk x l rfl))
theorem blk_ok {L:LB_} {h:LB_ × Nat} {body rest:Nat->List Pc × Nat} (hh:BodyOk h.1) (hb:∀ a,(∀ p ∈ (body a).1,p.ok)/\∀ r,apartP r->startP r->apartP ((body a).1++r)) (hr:∀ a,PcsOk False (rest a).1):PcsOk False (blkW L h body rest).1:=by
 obtain ⟨a1,a2,a3⟩:=act_ok (L:=L) (a:=h.2) hh;unfold blkW
 refine ⟨fun p hp=>?_,fun r hpr _=>?_,fun _=>?_⟩
 ·rcases List.mem_append.1 hp with hp | hp
  ·exact a1 p hp
  ·rcases List.mem_append.1 hp with hp | hp
   ·exact (hb _).1 p hp
   ·exact (hr _).ok p hp
 ·simp only [List.append_assoc]
  refine a2 _ ((hb _).2 _ ((hr _).apart r hpr (fun e=>e.elim)) ?_)
  exact start_app ((hr _).start id)
 ·exact ⟨start_app ⟨a3,by unfold actW;simp⟩,by unfold actW;simp⟩
theorem act_pcs {L b:LB_} {a:Nat} (h:BodyOk b):PcsOk False (actW L b a).1:=
 ⟨(act_ok h).1,fun r hr _=>(act_ok h).2.1 r hr,fun _=>⟨(act_ok (L:=L) (a:=a) h).2.2,by unfold actW;simp⟩⟩
theorem PcsOk.no {p q:Prop} {l:List Pc} (h:PcsOk p l) (hp:¬ p):PcsOk q l:=⟨h.ok,fun r hr _=>h.apart r hr (fun e=>absurd e hp),fun _=>h.start hp⟩
def OtOk (L:LB_) (n:Nat):Prop:=∀ (d:Nat) (top:Prop) (x:Nd) (a:Nat),SoundN d top x->2*d+1<=n->PcsOk False (otW L n x a).1
theorem nodes_pcs (L:LB_):∀ n,NdOk L n/\OtOk L n
 | 0=>⟨fun d top x a _ h=>by omega,fun d top x a _ h=>by omega⟩
 | n+1=>by
  obtain ⟨hN,hO⟩:=nodes_pcs L n
  have bodies:∀ (d:Nat) (l:List Nd),(∀ y ∈ l,SoundN (d - 1) False y)->apartN l->(l=[]\/0 < d/\2*d<=n)->∀ a,(∀ p ∈ (wrW (ndW L n) l a).1,p.ok)/\∀ r,apartP r->startP r->apartP ((wrW (ndW L n) l a).1++r):=fun d l hl ha hd a=>by
   have h:=wr_ok (node:=ndW L n) l a (fun y hy a=>hN (d - 1) False y a (hl y hy) (by
    rcases hd with rfl | hd
    ·cases hy
    ·omega)) ha
   exact ⟨h.1,h.2.1⟩
  refine ⟨fun d top x a hx hn=>?_,fun d top x a hx hn=>?_⟩
  ·have ho:=hx.own
   have hbd:x.body=[]\/0 < d/\2*d<=n:=by
    rcases hx.deep with h | h
    ·exact .inl h.1
    ·exact .inr ⟨h,by omega⟩
   rw [ndW]
   split
   ·next hk=>
    obtain ⟨h1,h2, -⟩:=ho.txt hk
    refine ⟨fun p hp=>?_,fun r hr hs=>?_,fun h=>absurd hk h⟩
    ·rw [List.mem_singleton.1 hp]
     exact ⟨fun e=>h1 (by rw [<-bs_of x.text,e]),h2⟩
    ·have h:=hs hk
     cases r with
     | nil=>trivial
     | cons p r=>cases p <;>first | exact hr | exact absurd h id
   ·next h0=>
    split
    ·next hk=>exact (act_pcs (body_pipe (ho.expr h0 (by omega)).1)).no id
    ·split
     ·next hk=>exact (act_pcs (body_wd (wd_set (ho.set hk) (ho.expr h0 (by omega)).1))).no id
     ·split
      ·next hk=>exact (blk_ok (body_wd wd_def) (bodies d x.body hx.body hx.abody hbd) (fun a=>act_pcs (body_wd wd_end))).no id
      ·next h6=>
       refine PcsOk.no (blk_ok (body_wd (wd_head ho (ho.expr h0 h6).1)) (bodies d x.body hx.body hx.abody hbd) (fun a=>?_)) id
       exact hO d top x a hx (by omega)
  ·have ed:x.els=[]\/0 < d/\2*d<=n:=by
    rcases hx.deep with h | h
    ·exact .inl h.2
    ·exact .inr ⟨h,by omega⟩
   have eb:=bodies d x.els hx.els hx.aels ed
   have fin:∀ a,PcsOk False (blkW L (elseW,a) (wrW (ndW L n) x.els) (actW L endW)).1:=fun a=>blk_ok (body_wd wd_else) eb (fun a=>act_pcs (body_wd wd_end))
   rw [otW]
   split
   ·exact act_pcs (body_wd wd_end)
   ·next y he=>
    rw [he] at fin ed;have hd0:0 < d/\2*d<=n:=ed.resolve_left (by simp);have hy:SoundN (d - 1) False y:=hx.els y (by rw [he];exact List.mem_cons_self ..)
    split
    ·next hk=>
     split
     ·refine blk_ok (body_wd (Wd.two wd_else (wd_head hy.own (hy.own.expr (by omega) (by omega)).1) (sk_gap L _))) (bodies (d - 1) y.body hy.body hy.abody ?_) (fun a=>?_)
      ·rcases hy.deep with h | h
       ·exact .inl h.1
       ·exact .inr ⟨h,by omega⟩
      ·exact hO (d - 1) False y a hy (by omega)
     ·exact fin _
    ·exact fin _
   ·exact fin _
end Go.Proofs.YtnblmhfgmehnnaaGreatDoor
namespace Go.Proofs.YtnblmhfgmehnnaaGreatDoor
open Go.RowKit Go.Lib
attribute [local go_sem ↓] Go.wp_at_zero Go.wp_at_succ
theorem emptyB {s:ByteArray} (h:s.toList=[]):s=⟨#[]⟩:=by
 rw [ByteArray.toList_eq] at h
 exact ByteArray.ext (by simpa using h)
theorem T.zero_of {v:T} (h0:v.kind=0) (h1:¬ v.bool=true) (h2:v.int=0) (h3:v.str.toList=[]) (h4:((v.list.length:Int)+(v.map.length:Int)==0)=true):v=T.zero:=by
 have h5:(v.list.length:Int)+(v.map.length:Int)=0:=by simpa using h4
 have h6:v.list=[]:=List.length_eq_zero_iff.1 (by omega);have h7:v.map=[]:=List.length_eq_zero_iff.1 (by omega);have h8:=emptyB h3;obtain ⟨k,b,n,s,l,m⟩:=v
 simp only [T.kind,T.bool,T.int,T.str,T.list,T.map] at h0 h1 h2 h6 h7 h8
 subst h0 h2 h6 h7 h8
 cases b with
 | false=>rfl
 | true=>exact absurd rfl h1
def LitV (v:T):Prop:=v=T.zero\/(∃ b,v=tB b)\/(∃ n,v=tN n/\ -9223372036854775808<=n/\n < 9223372036854775808)\/(∃ s,v=tS s)
theorem lit_of {v:T} (hi:i64ok v.int) (h0:0<=v.kind) (h3:v.kind<=3) (hb:v.kind=1\/¬ v.bool=true) (hn:v.kind=2\/v.int=0) (hs:v.kind=3\/v.str.toList=[]) (h4:((v.list.length:Int)+(v.map.length:Int)==0)=true):LitV v:=by
 have h5:(v.list.length:Int)+(v.map.length:Int)=0:=by simpa using h4
 have h6:v.list=[]:=List.length_eq_zero_iff.1 (by omega);have h7:v.map=[]:=List.length_eq_zero_iff.1 (by omega);unfold LitV tB tN tS T.zero;unfold i64ok at hi;obtain ⟨k,b,n,s,l,m⟩:=v
 simp only [T.kind,T.bool,T.int,T.str,T.list,T.map] at hi h0 h3 hb hn hs h6 h7
 subst h6 h7
 have hk:k=0\/k=1\/k=2\/k=3:=by omega
 have eb:k≠1->b=false:=fun h=>by simpa using hb.resolve_left h
 have en:k≠2->n=0:=fun h=>hn.resolve_left h
 have es:k≠3->s=⟨#[]⟩:=fun h=>emptyB (hs.resolve_left h)
 rcases hk with rfl | rfl | rfl | rfl
 ·exact .inl (by rw [eb (by decide),en (by decide),es (by decide)])
 ·exact .inr (.inl ⟨b,by rw [en (by decide),es (by decide)]⟩)
 ·exact .inr (.inr (.inl ⟨n,by rw [eb (by decide),es (by decide)],by omega,by omega⟩))
 ·exact .inr (.inr (.inr ⟨s,by rw [eb (by decide),en (by decide)]⟩))
def rgnOf (n:Nat):Code->Option Code
 | .region id ops dr=>if id=n then some (.region id ops dr) else none
 | .seq a b=>match rgnOf n a with | some c=>some c | none=>rgnOf n b
 | .cond _ a b=>match rgnOf n a with | some c=>some c | none=>rgnOf n b
 | .block _ b=>rgnOf n b
 | .loop b=>rgnOf n b
 | .rangeFunc _ _ a b=>match rgnOf n a with | some c=>some c | none=>rgnOf n b
 | .scope b=>rgnOf n b
 | _=>none
noncomputable def rgn07 (n:Nat):Code:=(Tryz.f16.body.bind (rgnOf n)).getD .skip
section
variable {wr:World} {n1:Nat} {d:Int} {k:Int} {v:T} {nm:ByteArray} {st:List ByteArray} {ar:List Ex} {la:OA_} {lc:Nat} {ma:OA_} {mc:Nat} {sa:OA_} {sc:Nat} {aa:OA_} {ac:Nat} {K9:Act->World->Prop} {Q:Exit->Act->World->Prop} {V0:Value} {u3 u4 u5 u6 u7 u8 u9 q0 qb qm qx qI qT j3 je jp jA jL jM jN jO jP jQ jR jS jT jU jV jW jX jY jZ j_ z0 z3 z4 z5 z6 z7 z8 z9 za zb zc zd ze zf zg zh zi zj zk zl zm zn zo zp zq zr zs zt zu zv zw zx zy zz zA zB zC zD zE zF zG zH zI zJ zK zL zM zN zO zP zQ zR zS zT zU zV zW zX zY zZ z_ g6 g7 g8 q1 q2 q3 q4 q5 q6 q7 q8 q9 qa qc qd qe qf qg qh qi qj qk ql qn qo qp qq qr qs qt qu qv qw qy qz qA qB qC qD qE qF qG qH qJ qK qL qM qN qO qP qQ qR qS qU qV qW qX qY qZ q_ j0 j1 j2 j4 j5 j6 j7 j8 j9 ja jb jc jd jf jg jh ji jj jk jl jm jn jo jq jr js jt ju jv jw jx jy jz jB jC jD jE jF jG jH jI jJ jK:Value}
theorem rr_bare (HB:Hid (Blk wr n1 45 #[.int .i64 k,.int .i64 v.kind,.bool v.bool,.int .i64 v.int,.string v.str,.slice la v.list.length lc,.slice ma v.map.length mc,.string nm,.slice sa st.length sc,.slice aa ar.length ac])) (hvl1:v.list.length*88<=140737488355328) (hvl2:v.map.length*104<=140737488355328)
  (hQ:∀ (r:Bool) (kH kI kJ kK kL kM kN kO kP kQ kR kS kT kU kV kW kX kY kZ k_ Q0 Q1 Q2 Q3 Q4 Q5 Q6 Q7 Q8 Q9 Qa Qb Qc Qd:Value),(r=true->v=T.zero)->K9 ⟨#[V0,.int .i64 d,.pointer (some ⟨n1,0,none⟩),u3,u4,u5,u6,.bool r,u8,u9,q0,qb,qm,qx,qI,qT,j3,je,jp,jA,jL,jM,jN,jO,jP,jQ,jR,jS,jT,jU,jV,jW,jX,jY,jZ,j_,z0,z3,z4,z5,z6,z7,z8,z9,kH,kI,kJ,kK,kL,kM,kN,kO,kP,kQ,kR,kS,kT,kU,kV,kW,kX,kY,kZ,k_,Q0,Q1,Q2,Q3,Q4,Q5,Q6,Q7,Q8,Q9,Qa,Qb,Qc,Qd,zI,zJ,zK,zL,zM,zN,zO,zP,zQ,zR,zS,zT,zU,zV,zW,zX,zY,zZ,z_,g6,g7,g8,q1,q2,q3,q4,q5,q6,q7,q8,q9,qa,qc,qd,qe,qf,qg,qh,qi,qj,qk,ql,qn,qo,qp,qq,qr,qs,qt,qu,qv,qw,qy,qz,qA,qB,qC,qD,qE,qF,qG,qH,qJ,qK,qL,qM,qN,qO,qP,qQ,qR,qS,qU,qV,qW,qX,qY,qZ,q_,j0,j1,j2,j4,j5,j6,j7,j8,j9,ja,jb,jc,jd,jf,jg,jh,ji,jj,jk,jl,jm,jn,jo,jq,jr,js,jt,ju,jv,jw,jx,jy,jz,jB,jC,jD,jE,jF,jG,jH,jI,jJ,jK],[]⟩ wr):
  Code.wp Tryz.prog (rgn07 11) (Exit.then K9 Q) ⟨#[V0,.int .i64 d,.pointer (some ⟨n1,0,none⟩),u3,u4,u5,u6,u7,u8,u9,q0,qb,qm,qx,qI,qT,j3,je,jp,jA,jL,jM,jN,jO,jP,jQ,jR,jS,jT,jU,jV,jW,jX,jY,jZ,j_,z0,z3,z4,z5,z6,z7,z8,z9,za,zb,zc,zd,ze,zf,zg,zh,zi,zj,zk,zl,zm,zn,zo,zp,zq,zr,zs,zt,zu,zv,zw,zx,zy,zz,zA,zB,zC,zD,zE,zF,zG,zH,zI,zJ,zK,zL,zM,zN,zO,zP,zQ,zR,zS,zT,zU,zV,zW,zX,zY,zZ,z_,g6,g7,g8,q1,q2,q3,q4,q5,q6,q7,q8,q9,qa,qc,qd,qe,qf,qg,qh,qi,qj,qk,ql,qn,qo,qp,qq,qr,qs,qt,qu,qv,qw,qy,qz,qA,qB,qC,qD,qE,qF,qG,qH,qJ,qK,qL,qM,qN,qO,qP,qQ,qR,qS,qU,qV,qW,qX,qY,qZ,q_,j0,j1,j2,j4,j5,j6,j7,j8,j9,ja,jb,jc,jd,jf,jg,jh,ji,jj,jk,jl,jm,jn,jo,jq,jr,js,jt,ju,jv,jw,jx,jy,jz,jB,jC,jD,jE,jF,jG,jH,jI,jJ,jK],[]⟩ wr:=by
 have HQ:=h_ hQ;clear hQ
 conv=>arg 2;whnf
 have k1:=HB.out.cell;have l1:=HB.out.lt;go_wp2_with fail
 all_goals first | (apply HQ.out false;exact fun h=>by cases h) | skip
 rename_i g0 g1 g2 g3
 (apply HQ.out;exact (fun h=>T.zero_of g0 g1 g2 g3 h))
theorem rr_lit {n5:Nat} (HB:Hid (Blk wr n5 41 #[.int .i64 v.kind,.bool v.bool,.int .i64 v.int,.string v.str,.slice la v.list.length lc,.slice ma v.map.length mc])) (HVI:Hid (i64ok v.int)) (hvl1:v.list.length*88<=140737488355328) (hvl2:v.map.length*104<=140737488355328)
  (hQ:∀ (r:Bool) (Qe Qf Qg Qh Qi Qj Qk Ql Qm Qn Qo Qp Qq Qr Qs Qt g9 ga gb gc gd ge gf gg gh gi gj gk gl gm gn gp gq gr gs gt gu gv gw gx gy gz gA gB gC gD gE gF:Value),(r=true->LitV v)->K9 ⟨#[V0,.int .i64 d,.pointer (some ⟨n1,0,none⟩),u3,u4,u5,u6,u7,.pointer (some ⟨n5,0,none⟩),.bool r,q0,qb,qm,qx,qI,qT,j3,je,jp,jA,jL,jM,jN,jO,jP,jQ,jR,jS,jT,jU,jV,jW,jX,jY,jZ,j_,z0,z3,z4,z5,z6,z7,z8,z9,za,zb,zc,zd,ze,zf,zg,zh,zi,zj,zk,zl,zm,zn,zo,zp,zq,zr,zs,zt,zu,zv,zw,zx,zy,zz,zA,zB,zC,zD,zE,zF,zG,zH,zI,zJ,zK,zL,zM,zN,Qe,Qf,Qg,Qh,Qi,Qj,Qk,Ql,Qm,Qn,Qo,Qp,Qq,Qr,Qs,Qt,g9,ga,gb,gc,gd,ge,gf,gg,gh,gi,gj,gk,gl,gm,gn,gp,gq,gr,gs,gt,gu,gv,gw,gx,gy,gz,gA,gB,gC,gD,gE,gF,qA,qB,qC,qD,qE,qF,qG,qH,qJ,qK,qL,qM,qN,qO,qP,qQ,qR,qS,qU,qV,qW,qX,qY,qZ,q_,j0,j1,j2,j4,j5,j6,j7,j8,j9,ja,jb,jc,jd,jf,jg,jh,ji,jj,jk,jl,jm,jn,jo,jq,jr,js,jt,ju,jv,jw,jx,jy,jz,jB,jC,jD,jE,jF,jG,jH,jI,jJ,jK],[]⟩ wr):
  Code.wp Tryz.prog (rgn07 15) (Exit.then K9 Q) ⟨#[V0,.int .i64 d,.pointer (some ⟨n1,0,none⟩),u3,u4,u5,u6,u7,.pointer (some ⟨n5,0,none⟩),u9,q0,qb,qm,qx,qI,qT,j3,je,jp,jA,jL,jM,jN,jO,jP,jQ,jR,jS,jT,jU,jV,jW,jX,jY,jZ,j_,z0,z3,z4,z5,z6,z7,z8,z9,za,zb,zc,zd,ze,zf,zg,zh,zi,zj,zk,zl,zm,zn,zo,zp,zq,zr,zs,zt,zu,zv,zw,zx,zy,zz,zA,zB,zC,zD,zE,zF,zG,zH,zI,zJ,zK,zL,zM,zN,zO,zP,zQ,zR,zS,zT,zU,zV,zW,zX,zY,zZ,z_,g6,g7,g8,q1,q2,q3,q4,q5,q6,q7,q8,q9,qa,qc,qd,qe,qf,qg,qh,qi,qj,qk,ql,qn,qo,qp,qq,qr,qs,qt,qu,qv,qw,qy,qz,qA,qB,qC,qD,qE,qF,qG,qH,qJ,qK,qL,qM,qN,qO,qP,qQ,qR,qS,qU,qV,qW,qX,qY,qZ,q_,j0,j1,j2,j4,j5,j6,j7,j8,j9,ja,jb,jc,jd,jf,jg,jh,ji,jj,jk,jl,jm,jn,jo,jq,jr,js,jt,ju,jv,jw,jx,jy,jz,jB,jC,jD,jE,jF,jG,jH,jI,jJ,jK],[]⟩ wr:=by
 have HQ:=h_ hQ;clear hQ
 conv=>arg 2;whnf
 have k1:=HB.out.cell;have l1:=HB.out.lt;go_wp2_with fail
 all_goals first | (apply HQ.out false;exact fun h=>by cases h) | skip
 all_goals (apply HQ.out;exact (fun h=>lit_of HVI.out (by omega) (by omega) (by first | exact .inl (by assumption) | exact .inr (by assumption)) (by first | exact .inl (by assumption) | exact .inr (by assumption)) (by first | exact .inl (by assumption) | exact .inr (by assumption)) h))
theorem rr_k0 {ok:Bool} (HB:Hid (Blk wr n1 45 #[.int .i64 k,.int .i64 v.kind,.bool v.bool,.int .i64 v.int,.string v.str,.slice la v.list.length lc,.slice ma v.map.length mc,.string nm,.slice sa st.length sc,.slice aa ar.length ac])) (hn1:ar.length*160<=140737488355328) (hn2:st.length*16<=140737488355328)
  (hQ:∀ (r:Bool) (gG gH gI gJ gK gL gM gN gO gP gQ gR gS gT gU gV:Value),(r=true->(ok=true/\nm=⟨#[]⟩/\st=[]/\ar=[]))->K9 ⟨#[V0,.int .i64 d,.pointer (some ⟨n1,0,none⟩),u3,.bool r,u5,u6,u7,u8,.bool ok,q0,qb,qm,qx,qI,qT,j3,je,jp,jA,jL,jM,jN,jO,jP,jQ,jR,jS,jT,jU,jV,jW,jX,jY,jZ,j_,z0,z3,z4,z5,z6,z7,z8,z9,za,zb,zc,zd,ze,zf,zg,zh,zi,zj,zk,zl,zm,zn,zo,zp,zq,zr,zs,zt,zu,zv,zw,zx,zy,zz,zA,zB,zC,zD,zE,zF,zG,zH,zI,zJ,zK,zL,zM,zN,zO,zP,zQ,zR,zS,zT,zU,zV,zW,zX,zY,zZ,z_,g6,g7,g8,q1,q2,q3,q4,q5,q6,q7,q8,q9,qa,qc,qd,qe,qf,qg,qh,qi,qj,qk,ql,qn,qo,qp,qq,qr,qs,qt,qu,qv,qw,qy,qz,gG,gH,gI,gJ,gK,gL,gM,gN,gO,gP,gQ,gR,gS,gT,gU,gV,qR,qS,qU,qV,qW,qX,qY,qZ,q_,j0,j1,j2,j4,j5,j6,j7,j8,j9,ja,jb,jc,jd,jf,jg,jh,ji,jj,jk,jl,jm,jn,jo,jq,jr,js,jt,ju,jv,jw,jx,jy,jz,jB,jC,jD,jE,jF,jG,jH,jI,jJ,jK],[]⟩ wr):
  Code.wp Tryz.prog (rgn07 16) (Exit.then K9 Q) ⟨#[V0,.int .i64 d,.pointer (some ⟨n1,0,none⟩),u3,u4,u5,u6,u7,u8,.bool ok,q0,qb,qm,qx,qI,qT,j3,je,jp,jA,jL,jM,jN,jO,jP,jQ,jR,jS,jT,jU,jV,jW,jX,jY,jZ,j_,z0,z3,z4,z5,z6,z7,z8,z9,za,zb,zc,zd,ze,zf,zg,zh,zi,zj,zk,zl,zm,zn,zo,zp,zq,zr,zs,zt,zu,zv,zw,zx,zy,zz,zA,zB,zC,zD,zE,zF,zG,zH,zI,zJ,zK,zL,zM,zN,zO,zP,zQ,zR,zS,zT,zU,zV,zW,zX,zY,zZ,z_,g6,g7,g8,q1,q2,q3,q4,q5,q6,q7,q8,q9,qa,qc,qd,qe,qf,qg,qh,qi,qj,qk,ql,qn,qo,qp,qq,qr,qs,qt,qu,qv,qw,qy,qz,qA,qB,qC,qD,qE,qF,qG,qH,qJ,qK,qL,qM,qN,qO,qP,qQ,qR,qS,qU,qV,qW,qX,qY,qZ,q_,j0,j1,j2,j4,j5,j6,j7,j8,j9,ja,jb,jc,jd,jf,jg,jh,ji,jj,jk,jl,jm,jn,jo,jq,jr,js,jt,ju,jv,jw,jx,jy,jz,jB,jC,jD,jE,jF,jG,jH,jI,jJ,jK],[]⟩ wr:=by
 have HQ:=h_ hQ;clear hQ
 conv=>arg 2;whnf
 have k1:=HB.out.cell;have l1:=HB.out.lt
 cases ok with
 | false=>
  go_wp2_with fail
  (apply HQ.out false;exact fun h=>by cases h)
 | true=>
  go_wp2_with fail
  all_goals first | (apply HQ.out false;exact fun h=>by cases h) | skip
  rename_i g0
  (apply HQ.out;exact (fun h=>⟨by first | rfl | trivial,emptyB g0,by have h5:(st.length:Int)+(ar.length:Int)=0:=(by simpa using h);exact List.length_eq_zero_iff.1 (by omega),by have h5:(st.length:Int)+(ar.length:Int)=0:=(by simpa using h);exact List.length_eq_zero_iff.1 (by omega)⟩))
theorem rr_k1 {bb:Bool} (HB:Hid (Blk wr n1 45 #[.int .i64 k,.int .i64 v.kind,.bool v.bool,.int .i64 v.int,.string v.str,.slice la v.list.length lc,.slice ma v.map.length mc,.string nm,.slice sa st.length sc,.slice aa ar.length ac]))
  (hQ:∀ (r:Bool) (gW gX gY gZ g_ k0 k2 k3 k4 k6 k7 k8:Value),(r=true->(bb=true/\nm=⟨#[]⟩/\ar=[]))->K9 ⟨#[V0,.int .i64 d,.pointer (some ⟨n1,0,none⟩),u3,.bool r,u5,u6,.bool bb,u8,u9,q0,qb,qm,qx,qI,qT,j3,je,jp,jA,jL,jM,jN,jO,jP,jQ,jR,jS,jT,jU,jV,jW,jX,jY,jZ,j_,z0,z3,z4,z5,z6,z7,z8,z9,za,zb,zc,zd,ze,zf,zg,zh,zi,zj,zk,zl,zm,zn,zo,zp,zq,zr,zs,zt,zu,zv,zw,zx,zy,zz,zA,zB,zC,zD,zE,zF,zG,zH,zI,zJ,zK,zL,zM,zN,zO,zP,zQ,zR,zS,zT,zU,zV,zW,zX,zY,zZ,z_,g6,g7,g8,q1,q2,q3,q4,q5,q6,q7,q8,q9,qa,qc,qd,qe,qf,qg,qh,qi,qj,qk,ql,qn,qo,qp,qq,qr,qs,qt,qu,qv,qw,qy,qz,qA,qB,qC,qD,qE,qF,qG,qH,qJ,qK,qL,qM,qN,qO,qP,qQ,qR,qS,gW,gX,gY,gZ,g_,k0,k2,k3,k4,k6,k7,k8,j6,j7,j8,j9,ja,jb,jc,jd,jf,jg,jh,ji,jj,jk,jl,jm,jn,jo,jq,jr,js,jt,ju,jv,jw,jx,jy,jz,jB,jC,jD,jE,jF,jG,jH,jI,jJ,jK],[]⟩ wr):
  Code.wp Tryz.prog (rgn07 18) (Exit.then K9 Q) ⟨#[V0,.int .i64 d,.pointer (some ⟨n1,0,none⟩),u3,u4,u5,u6,.bool bb,u8,u9,q0,qb,qm,qx,qI,qT,j3,je,jp,jA,jL,jM,jN,jO,jP,jQ,jR,jS,jT,jU,jV,jW,jX,jY,jZ,j_,z0,z3,z4,z5,z6,z7,z8,z9,za,zb,zc,zd,ze,zf,zg,zh,zi,zj,zk,zl,zm,zn,zo,zp,zq,zr,zs,zt,zu,zv,zw,zx,zy,zz,zA,zB,zC,zD,zE,zF,zG,zH,zI,zJ,zK,zL,zM,zN,zO,zP,zQ,zR,zS,zT,zU,zV,zW,zX,zY,zZ,z_,g6,g7,g8,q1,q2,q3,q4,q5,q6,q7,q8,q9,qa,qc,qd,qe,qf,qg,qh,qi,qj,qk,ql,qn,qo,qp,qq,qr,qs,qt,qu,qv,qw,qy,qz,qA,qB,qC,qD,qE,qF,qG,qH,qJ,qK,qL,qM,qN,qO,qP,qQ,qR,qS,qU,qV,qW,qX,qY,qZ,q_,j0,j1,j2,j4,j5,j6,j7,j8,j9,ja,jb,jc,jd,jf,jg,jh,ji,jj,jk,jl,jm,jn,jo,jq,jr,js,jt,ju,jv,jw,jx,jy,jz,jB,jC,jD,jE,jF,jG,jH,jI,jJ,jK],[]⟩ wr:=by
 have HQ:=h_ hQ;clear hQ
 conv=>arg 2;whnf
 have k1:=HB.out.cell;have l1:=HB.out.lt
 cases bb with
 | false=>
  go_wp2_with fail
  (apply HQ.out false;exact fun h=>by cases h)
 | true=>
  go_wp2_with fail
  all_goals first | (apply HQ.out false;exact fun h=>by cases h) | skip
  rename_i g0
  (apply HQ.out;exact (fun h=>⟨by first | rfl | trivial,emptyB g0,by have h5:(ar.length:Int)=0:=(by simpa using h);exact List.length_eq_zero_iff.1 (by omega)⟩))
theorem rr_k2 {bb:Bool} (HB:Hid (Blk wr n1 45 #[.int .i64 k,.int .i64 v.kind,.bool v.bool,.int .i64 v.int,.string v.str,.slice la v.list.length lc,.slice ma v.map.length mc,.string nm,.slice sa st.length sc,.slice aa ar.length ac])) (HNM:Hid (nm.size<=140737488351232))
  (hQ:∀ (r:Bool) (k9 ka kb kc kd ke kf kg kh ki kj kk:Value),(r=true->(bb=true/\nameL nm.data.toList=true/\ar=[]))->K9 ⟨#[V0,.int .i64 d,.pointer (some ⟨n1,0,none⟩),u3,.bool r,u5,u6,.bool bb,u8,u9,q0,qb,qm,qx,qI,qT,j3,je,jp,jA,jL,jM,jN,jO,jP,jQ,jR,jS,jT,jU,jV,jW,jX,jY,jZ,j_,z0,z3,z4,z5,z6,z7,z8,z9,za,zb,zc,zd,ze,zf,zg,zh,zi,zj,zk,zl,zm,zn,zo,zp,zq,zr,zs,zt,zu,zv,zw,zx,zy,zz,zA,zB,zC,zD,zE,zF,zG,zH,zI,zJ,zK,zL,zM,zN,zO,zP,zQ,zR,zS,zT,zU,zV,zW,zX,zY,zZ,z_,g6,g7,g8,q1,q2,q3,q4,q5,q6,q7,q8,q9,qa,qc,qd,qe,qf,qg,qh,qi,qj,qk,ql,qn,qo,qp,qq,qr,qs,qt,qu,qv,qw,qy,qz,qA,qB,qC,qD,qE,qF,qG,qH,qJ,qK,qL,qM,qN,qO,qP,qQ,qR,qS,qU,qV,qW,qX,qY,qZ,q_,j0,j1,j2,j4,j5,j6,j7,k9,ka,kb,kc,kd,ke,kf,kg,kh,ki,kj,kk,jl,jm,jn,jo,jq,jr,js,jt,ju,jv,jw,jx,jy,jz,jB,jC,jD,jE,jF,jG,jH,jI,jJ,jK],[]⟩ wr):
  Code.wp Tryz.prog (rgn07 20) (Exit.then K9 Q) ⟨#[V0,.int .i64 d,.pointer (some ⟨n1,0,none⟩),u3,u4,u5,u6,.bool bb,u8,u9,q0,qb,qm,qx,qI,qT,j3,je,jp,jA,jL,jM,jN,jO,jP,jQ,jR,jS,jT,jU,jV,jW,jX,jY,jZ,j_,z0,z3,z4,z5,z6,z7,z8,z9,za,zb,zc,zd,ze,zf,zg,zh,zi,zj,zk,zl,zm,zn,zo,zp,zq,zr,zs,zt,zu,zv,zw,zx,zy,zz,zA,zB,zC,zD,zE,zF,zG,zH,zI,zJ,zK,zL,zM,zN,zO,zP,zQ,zR,zS,zT,zU,zV,zW,zX,zY,zZ,z_,g6,g7,g8,q1,q2,q3,q4,q5,q6,q7,q8,q9,qa,qc,qd,qe,qf,qg,qh,qi,qj,qk,ql,qn,qo,qp,qq,qr,qs,qt,qu,qv,qw,qy,qz,qA,qB,qC,qD,qE,qF,qG,qH,qJ,qK,qL,qM,qN,qO,qP,qQ,qR,qS,qU,qV,qW,qX,qY,qZ,q_,j0,j1,j2,j4,j5,j6,j7,j8,j9,ja,jb,jc,jd,jf,jg,jh,ji,jj,jk,jl,jm,jn,jo,jq,jr,js,jt,ju,jv,jw,jx,jy,jz,jB,jC,jD,jE,jF,jG,jH,jI,jJ,jK],[]⟩ wr:=by
 have HQ:=h_ hQ;clear hQ
 conv=>arg 2;whnf
 have k1:=HB.out.cell;have l1:=HB.out.lt
 cases bb with
 | false=>
  go_wp2_with fail
  (apply HQ.out false;exact fun h=>by cases h)
 | true=>
  go_wp2_with fail
  refine (trname nm _ HNM.out).mono ?_
  rintro e w' ⟨rfl,rfl⟩
  by_cases hb:nameL nm.data.toList=true
  ·rw [hb]
   have HN:=h_ hb;clear hb;go_wp2_with fail
   (apply HQ.out;exact (fun h=>⟨by first | rfl | trivial,HN.out,by have h5:(ar.length:Int)=0:=(by simpa using h);exact List.length_eq_zero_iff.1 (by omega)⟩))
  ·have hb:nameL nm.data.toList=false:=by simpa using hb
   rw [hb];clear hb;go_wp2_with fail
   (apply HQ.out false;exact fun h=>by cases h)
theorem rr_k3 {bb:Bool} (HB:Hid (Blk wr n1 45 #[.int .i64 k,.int .i64 v.kind,.bool v.bool,.int .i64 v.int,.string v.str,.slice la v.list.length lc,.slice ma v.map.length mc,.string nm,.slice sa st.length sc,.slice aa ar.length ac])) (HNM:Hid (nm.size<=140737488351232))
  (hQ:∀ (r:Bool) (kl km kn ko kp kq kr ks kt ku kv kw kx ky kz kA kB kC kD kE kF kG:Value),(r=true->(bb=true/\nameL nm.data.toList=true/\wordsB nm.data.toList=true/\freeB nm.data.toList=true/\st=[]))->K9 ⟨#[V0,.int .i64 d,.pointer (some ⟨n1,0,none⟩),u3,.bool r,u5,u6,.bool bb,u8,u9,q0,qb,qm,qx,qI,qT,j3,je,jp,jA,jL,jM,jN,jO,jP,jQ,jR,jS,jT,jU,jV,jW,jX,jY,jZ,j_,z0,z3,z4,z5,z6,z7,z8,z9,za,zb,zc,zd,ze,zf,zg,zh,zi,zj,zk,zl,zm,zn,zo,zp,zq,zr,zs,zt,zu,zv,zw,zx,zy,zz,zA,zB,zC,zD,zE,zF,zG,zH,zI,zJ,zK,zL,zM,zN,zO,zP,zQ,zR,zS,zT,zU,zV,zW,zX,zY,zZ,z_,g6,g7,g8,q1,q2,q3,q4,q5,q6,q7,q8,q9,qa,qc,qd,qe,qf,qg,qh,qi,qj,qk,ql,qn,qo,qp,qq,qr,qs,qt,qu,qv,qw,qy,qz,qA,qB,qC,qD,qE,qF,qG,qH,qJ,qK,qL,qM,qN,qO,qP,qQ,qR,qS,qU,qV,qW,qX,qY,qZ,q_,j0,j1,j2,j4,j5,j6,j7,j8,j9,ja,jb,jc,jd,jf,jg,jh,ji,jj,jk,jl,jm,kl,km,kn,ko,kp,kq,kr,ks,kt,ku,kv,kw,kx,ky,kz,kA,kB,kC,kD,kE,kF,kG],[]⟩ wr):
  Code.wp Tryz.prog (rgn07 22) (Exit.then K9 Q) ⟨#[V0,.int .i64 d,.pointer (some ⟨n1,0,none⟩),u3,u4,u5,u6,.bool bb,u8,u9,q0,qb,qm,qx,qI,qT,j3,je,jp,jA,jL,jM,jN,jO,jP,jQ,jR,jS,jT,jU,jV,jW,jX,jY,jZ,j_,z0,z3,z4,z5,z6,z7,z8,z9,za,zb,zc,zd,ze,zf,zg,zh,zi,zj,zk,zl,zm,zn,zo,zp,zq,zr,zs,zt,zu,zv,zw,zx,zy,zz,zA,zB,zC,zD,zE,zF,zG,zH,zI,zJ,zK,zL,zM,zN,zO,zP,zQ,zR,zS,zT,zU,zV,zW,zX,zY,zZ,z_,g6,g7,g8,q1,q2,q3,q4,q5,q6,q7,q8,q9,qa,qc,qd,qe,qf,qg,qh,qi,qj,qk,ql,qn,qo,qp,qq,qr,qs,qt,qu,qv,qw,qy,qz,qA,qB,qC,qD,qE,qF,qG,qH,qJ,qK,qL,qM,qN,qO,qP,qQ,qR,qS,qU,qV,qW,qX,qY,qZ,q_,j0,j1,j2,j4,j5,j6,j7,j8,j9,ja,jb,jc,jd,jf,jg,jh,ji,jj,jk,jl,jm,jn,jo,jq,jr,js,jt,ju,jv,jw,jx,jy,jz,jB,jC,jD,jE,jF,jG,jH,jI,jJ,jK],[]⟩ wr:=by
 have HQ:=h_ hQ;clear hQ
 conv=>arg 2;whnf
 have k1:=HB.out.cell;have l1:=HB.out.lt
 cases bb with
 | false=>
  go_wp2_with fail
  (apply HQ.out false;exact fun h=>by cases h)
 | true=>
  go_wp2_with fail
  refine (trname nm _ HNM.out).mono ?_
  rintro e w' ⟨rfl,rfl⟩
  by_cases hb:nameL nm.data.toList=true
  ·rw [hb]
   have HN:=h_ hb;clear hb;go_wp2_with fail
   refine (trword nm _).mono ?_
   rintro e w' ⟨rfl,rfl⟩
   by_cases hb:wordsB nm.data.toList=true
   ·rw [hb]
    have HN2:=h_ hb;clear hb;go_wp2_with fail
    refine (trfree nm _).mono ?_
    rintro e w' ⟨rfl,rfl⟩
    by_cases hb:freeB nm.data.toList=true
    ·rw [hb]
     have HN3:=h_ hb;clear hb;go_wp2_with fail
     (apply HQ.out;exact (fun h=>⟨by first | rfl | trivial,HN.out,HN2.out,HN3.out,by have h5:(st.length:Int)=0:=(by simpa using h);exact List.length_eq_zero_iff.1 (by omega)⟩))
    ·have hb:freeB nm.data.toList=false:=by simpa using hb
     rw [hb];clear hb;go_wp2_with fail
     (apply HQ.out false;exact fun h=>by cases h)
   ·have hb:wordsB nm.data.toList=false:=by simpa using hb
    rw [hb];clear hb;go_wp2_with fail
    (apply HQ.out false;exact fun h=>by cases h)
  ·have hb:nameL nm.data.toList=false:=by simpa using hb
   rw [hb];clear hb;go_wp2_with fail
   (apply HQ.out false;exact fun h=>by cases h)
end
def RightI (x:Ex) (d:Nat) (W:World) (e:Ending) (w':World):Prop:=∃ r:Bool,e=.returned (.bool r)/\Below W.heap.size W w'/\(r=true->RightX d x/\FreeX x)
section
variable {d:Nat} {k:Int} {v:T} {nm:ByteArray} {st:List ByteArray} {ar:List Ex}
theorem right_mk0 (hk:k=0) (hv:LitV v) (hn:nm=⟨#[]⟩) (hs:st=[]) (ha:ar=[]):RightX d (.mk k v nm st ar)/\FreeX (.mk k v nm st ar):=by
 subst hk hn hs ha
 exact ⟨.mk _ _ ⟨.inl rfl,fun s hs=>absurd hs (by simp [Ex.steps]),fun _=>⟨hv,rfl,rfl,rfl⟩,fun h=>absurd rfl h,fun h=>absurd (show (0:Int)=1 from h) (by decide),fun h=>absurd (show (0:Int)=2 from h) (by decide),fun h=>absurd (show (0:Int)=3 from h) (by decide)⟩ (.inl rfl) (fun y hy=>absurd hy (by simp [Ex.args])),.mk _ (fun h=>absurd (show (0:Int)=3 from h) (by decide)) (fun y hy=>absurd hy (by simp [Ex.args]))⟩
theorem right_mk1 (hk:k=1) (hv:v=T.zero) (hn:nm=⟨#[]⟩) (hs:∀ s ∈ st,nameL s.data.toList=true) (ha:ar=[]):RightX d (.mk k v nm st ar)/\FreeX (.mk k v nm st ar):=by
 subst hk hv hn ha
 exact ⟨.mk _ _ ⟨.inr (.inl rfl),hs,fun h=>absurd (show (1:Int)=0 from h) (by decide),fun _=>rfl,fun _=>⟨rfl,rfl⟩,fun h=>absurd (show (1:Int)=2 from h) (by decide),fun h=>absurd (show (1:Int)=3 from h) (by decide)⟩ (.inl rfl) (fun y hy=>absurd hy (by simp [Ex.args])),.mk _ (fun h=>absurd (show (1:Int)=3 from h) (by decide)) (fun y hy=>absurd hy (by simp [Ex.args]))⟩
theorem right_mk2 (hk:k=2) (hv:v=T.zero) (hn:nameL nm.data.toList=true) (hs:∀ s ∈ st,nameL s.data.toList=true) (ha:ar=[]):RightX d (.mk k v nm st ar)/\FreeX (.mk k v nm st ar):=by
 subst hk hv ha
 exact ⟨.mk _ _ ⟨.inr (.inr (.inl rfl)),hs,fun h=>absurd (show (2:Int)=0 from h) (by decide),fun _=>rfl,fun h=>absurd (show (2:Int)=1 from h) (by decide),fun _=>⟨hn,rfl⟩,fun h=>absurd (show (2:Int)=3 from h) (by decide)⟩ (.inl rfl) (fun y hy=>absurd hy (by simp [Ex.args])),.mk _ (fun h=>absurd (show (2:Int)=3 from h) (by decide)) (fun y hy=>absurd hy (by simp [Ex.args]))⟩
theorem right_mk3 (hk:k=3) (hv:v=T.zero) (hn:nameL nm.data.toList=true) (hw:wordsB nm.data.toList=true) (hf:freeB nm.data.toList=true) (hs:st=[]) (ha:(∀ y ∈ ar,RightX (d - 1) y/\FreeX y)/\(ar=[]\/0 < d)):RightX d (.mk k v nm st ar)/\FreeX (.mk k v nm st ar):=by
 subst hk hv hs
 exact ⟨.mk _ _ ⟨.inr (.inr (.inr rfl)),fun s hs=>absurd hs (by simp [Ex.steps]),fun h=>absurd (show (3:Int)=0 from h) (by decide),fun _=>rfl,fun h=>absurd (show (3:Int)=1 from h) (by decide),fun h=>absurd (show (3:Int)=2 from h) (by decide),fun _=>⟨hn,hw,rfl⟩⟩ ha.2 (fun y hy=>(ha.1 y hy).1),.mk _ (fun _=>hf) (fun y hy=>(ha.1 y hy).2)⟩
end
theorem rright7 {w:World} {S:Nat->Prop} {cs:List Value} {x:Ex} (h:RepX w S cs x):∀ (W:World) (d:Nat),Below w.heap.size w W->d<=16->Calls Tryz.prog 16 #[.agg (List.toArray cs),.int .i64 d] W (RightI x d W):=by
 induction h with
 | mk k v nm st ar la lc ma mc sa sc aa ac C hk hv hn hs hsr har ha hr ih=>
 intro W d hW hd16
 show Calls Tryz.prog 16 #[.agg #[.int .i64 k,.int .i64 v.kind,.bool v.bool,.int .i64 v.int,.string v.str,.slice la v.list.length lc,.slice ma v.map.length mc,.string nm,.slice sa st.length sc,.slice aa ar.length ac],.int .i64 d] W _
 have hwW:=hW.size;have HS:=h_ (show RepS W S sa st from hs.mono (fun b hb _=>hb) (fun b o hb hlt=>hW.cell hlt))
 have HA:=h_ (fun i (hi:i < ar.length)=>show ∃ b o,aa=some ⟨b,o,none⟩/\b < W.heap.size/\cellsAt W b (o+i*10) (C i) from by
  obtain ⟨b,o,e,hb,hc⟩:=ha i hi
  have hlt:b < w.heap.size:=by have hl:=(hr i hi).len;generalize C i=cs at hc hl;cases cs with | nil=>simp at hl | cons c cs=>exact hc.lt
  exact ⟨b,o,e,by omega,hc.keep fun i=>hW.cell hlt⟩)
 have HR:=h_ (fun i (hi:i < ar.length)=>(hr i hi).inv);have HIH:=h_ ih;have hn1:=har.2.2;have hn2:=hsr.2.2
 have hvl:v.list.length*88<=140737488355328/\v.map.length*104<=140737488355328/\i64ok v.int:=by obtain ⟨_,_,_,_,_,_,h2,h3,h4,h5,_⟩:=hv.inv;exact ⟨h4,h5,h2⟩
 have HVI:=h_ hvl.2.2;have hvl1:=hvl.1;have hvl2:=hvl.2.1;have HW:=h_ hW;have HV:=h_ hv;have HNM:=h_ hn;clear hk hv hn hs hsr har ha hr ih hW hvl;have hb1:=Below.new W (.cells #[.int .i64 k,.int .i64 v.kind,.bool v.bool,.int .i64 v.int,.string v.str,.slice la v.list.length lc,.slice ma v.map.length mc,.string nm,.slice sa st.length sc,.slice aa ar.length ac] 45);have h1:=Blk.new W 45 #[.int .i64 k,.int .i64 v.kind,.bool v.bool,.int .i64 v.int,.string v.str,.slice la v.list.length lc,.slice ma v.map.length mc,.string nm,.slice sa st.length sc,.slice aa ar.length ac];obtain ⟨W1,e1⟩:∃ z,z=W.alloc (.cells #[.int .i64 k,.int .i64 v.kind,.bool v.bool,.int .i64 v.int,.string v.str,.slice la v.list.length lc,.slice ma v.map.length mc,.string nm,.slice sa st.length sc,.slice aa ar.length ac] 45):=⟨_,rfl⟩;rw [<-e1] at hb1 h1;obtain ⟨n1,en1⟩:∃ z,z=W.heap.size:=⟨_,rfl⟩;rw [<-en1] at h1;have HB1:=h_ hb1;have H1:=h_ h1;have E1:=h_ e1;have N1:=h_ en1;clear h1 hb1 e1 en1
 go_enter Tryz.func16,Tryz.ntmps16
 go_wp2_with fail;rw [<-E1.out,<-N1.out]
 generalize Value.agg #[.int .i64 k,.int .i64 v.kind,.bool v.bool,.int .i64 v.int,.string v.str,.slice la v.list.length lc,.slice ma v.map.length mc,.string nm,.slice sa st.length sc,.slice aa ar.length ac]=V0
 have k1:=H1.out.cell;have f1:=H1.out.frozen;have l1:=H1.out.lt
 go_loopw [5] (fun x5 wr=>∃ q:Nat,q<=st.length/\x5=.int .i64 q/\Hid (∀ j (h2:j < st.length),j < q->nameL st[j].data.toList=true)/\wr=W1) (fun x5 _=>st.length - (Lib.intOf x5).toNat)
 case atStart=>exact ⟨0,Nat.zero_le _,rfl,h_ (fun j _ h=>absurd h (Nat.not_lt_zero _)),rfl⟩
 case round=>
  obtain ⟨q,hq,rfl,HST,rfl⟩:=hrel
  by_cases hlt:q < st.length
  ·obtain ⟨b,bo,rfl, -,hbl,hc,hz⟩:=HS.out q hlt
   have hcw:wr.cell? ⟨b,bo+q,none⟩=some (.string st[q]):=(HB1.out.cell (p:=⟨b,bo+q,none⟩) hbl).trans hc
   have hg0:(0:Int)<=(q:Int):=by omega
   have hg1:(q:Int) < (st.length:Int):=by omega
   have hwk:IntKind.i64.wrap ((q:Int)+1)=(q:Int)+1:=wrap_fit (by omega) (by omega)
   have HNX:=h_ (fun (hb:nameL st[q].data.toList=true)=>show ∀ j (h2:j < st.length),j < q+1->nameL st[j].data.toList=true from fun j h2 h3=>by
    rcases Nat.lt_or_ge j q with h | h
    ·exact HST.out j h2 h
    ·obtain rfl:j=q:=by omega
     exact hb)
   obtain ⟨sq,hsq⟩:∃ z,z=st[q]:=⟨_,rfl⟩;rw [<-hsq] at hcw HNX hz;have CN:=h_ (trname sq wr hz);have hs1:=HB1.out.size
   have hlb:b < wr.heap.size:=by omega
   clear hc hsq hz;go_wp2_with fail
   refine CN.out.mono ?_
   rintro e w' ⟨rfl,rfl⟩
   by_cases hb:nameL sq.data.toList=true
   ·rw [hb]
    have HN:=h_ (HNX.out hb);clear hb;go_wp2_with fail
    go_roundw
    case rel=>exact ⟨q+1,by omega,by go_num,HN,trivial⟩
    case measure=>simp [Lib.intOf];omega
   ·have hb:nameL sq.data.toList=false:=by simpa using hb
    rw [hb];clear hb;go_wp2_with fail;go_ret
    exact ⟨false,rfl,HB1.out,fun h=>by cases h⟩
  ·have hge:¬ (q:Int) < (st.length:Int):=by omega
   have HSA:=h_ (show ∀ s ∈ st,nameL s.data.toList=true from fun s hs=>by
    obtain ⟨j,hj,rfl⟩:=List.getElem_of_mem hs
    exact HST.out j hj (by omega))
   clear hlt;go_wp2_with fail
   go_loopw [6] (fun x6 wr=>∃ q:Nat,q<=ar.length/\x6=.int .i64 q/\Hid (∀ j (h2:j < ar.length),j < q->0 < d/\RightX (d - 1) ar[j]/\FreeX ar[j])/\Hid (Below W.heap.size W wr)/\Hid (Blk wr n1 45 #[.int .i64 k,.int .i64 v.kind,.bool v.bool,.int .i64 v.int,.string v.str,.slice la v.list.length lc,.slice ma v.map.length mc,.string nm,.slice sa st.length sc,.slice aa ar.length ac])) (fun x6 _=>ar.length - (Lib.intOf x6).toNat)
   case atStart=>exact ⟨0,Nat.zero_le _,rfl,h_ (fun j _ h=>absurd h (Nat.not_lt_zero _)),HB1,H1⟩
   case round=>
    obtain ⟨q,hq,rfl,HAR,HBP,HP1⟩:=hrel;clear k1 f1 l1
    by_cases hlt:q < ar.length
    ·by_cases hd0:d=0
     ·subst hd0
      have k1:=HP1.out.cell;have l1:=HP1.out.lt;go_wp2_with fail;go_ret
      exact ⟨false,rfl,HBP.out,fun h=>by cases h⟩
     ·have hdp:¬ (d:Int)<=0:=by omega
      obtain ⟨b,bo,rfl,hbl,hcell⟩:=HA.out q hlt;obtain ⟨lay,lcy,may,mcy,say,scy,aay,acy,hC, -⟩:=HR.out q hlt;have hih:=HIH.out q hlt;rw [hC] at hcell hih
      have HNX:=h_ (fun (hb:RightX (d - 1) ar[q]/\FreeX ar[q])=>show ∀ j (h2:j < ar.length),j < q+1->0 < d/\RightX (d - 1) ar[j]/\FreeX ar[j] from fun j h2 h3=>by
       rcases Nat.lt_or_ge j q with h | h
       ·exact HAR.out j h2 h
       ·obtain rfl:j=q:=by omega
        exact ⟨by omega,hb⟩)
      obtain ⟨y,hy⟩:∃ z,z=ar[q]:=⟨_,rfl⟩;rw [<-hy] at hcell hih HNX
      have hcw:cellsAt wr b (bo+q*10) [.int .i64 y.kind,.int .i64 y.val.kind,.bool y.val.bool,.int .i64 y.val.int,.string y.val.str,.slice lay y.val.list.length lcy,.slice may y.val.map.length mcy,.string y.name,.slice say y.steps.length scy,.slice aay y.args.length acy]:=hcell.keep fun i=>HBP.out.cell (p:=⟨b,i,none⟩) hbl
      have hsz:=HBP.out.size
      have hlb:b < wr.heap.size:=by omega
      have c0:wr.cell? ⟨b,bo+q*10,none⟩=some (.int .i64 y.kind):=hcw 0 _ rfl;have c1:wr.cell? ⟨b,bo+q*10+1,none⟩=some (.int .i64 y.val.kind):=hcw 1 _ rfl;have c2:wr.cell? ⟨b,bo+q*10+2,none⟩=some (.bool y.val.bool):=hcw 2 _ rfl;have c3:wr.cell? ⟨b,bo+q*10+3,none⟩=some (.int .i64 y.val.int):=hcw 3 _ rfl;have c4:wr.cell? ⟨b,bo+q*10+4,none⟩=some (.string y.val.str):=hcw 4 _ rfl;have c5:wr.cell? ⟨b,bo+q*10+5,none⟩=some (.slice lay y.val.list.length lcy):=hcw 5 _ rfl;have c6:wr.cell? ⟨b,bo+q*10+6,none⟩=some (.slice may y.val.map.length mcy):=hcw 6 _ rfl;have c7:wr.cell? ⟨b,bo+q*10+7,none⟩=some (.string y.name):=hcw 7 _ rfl;have c8:wr.cell? ⟨b,bo+q*10+8,none⟩=some (.slice say y.steps.length scy):=hcw 8 _ rfl;have c9:wr.cell? ⟨b,bo+q*10+9,none⟩=some (.slice aay y.args.length acy):=hcw 9 _ rfl
      have hg0:(0:Int)<=(q:Int):=by omega
      have hg1:(q:Int) < (ar.length:Int):=by omega
      have hwk:IntKind.i64.wrap ((q:Int)+1)=(q:Int)+1:=wrap_fit (by omega) (by omega)
      have hwd:IntKind.i64.wrap ((d:Int) - 1)=((d - 1:Nat):Int):=by rw [wrap_fit (by omega) (by omega)];omega
      have HIHY:=h_ hih;have HWR:=h_ (show Below w.heap.size w wr from ⟨HBP.out.os.trans HW.out.os,HBP.out.tape.trans HW.out.tape,HBP.out.output.trans HW.out.output,Nat.le_trans HW.out.size HBP.out.size,fun b hb=>(HBP.out.block b (by omega)).trans (HW.out.block b hb)⟩);have k1:=HP1.out.cell;have f1:=HP1.out.frozen;have l1:=HP1.out.lt;clear hcell hcw hC hih hy;go_wp2_with fail
      refine (HIHY.out _ (d - 1) HWR.out (by omega)).mono ?_
      rintro e w8 ⟨r,rfl,hb8,hr⟩;have HB8:=h_ (Below.next HBP.out hb8);have HP8:=h_ (HP1.out.keep hb8);clear hb8 k1 f1 l1 c0 c1 c2 c3 c4 c5 c6 c7 c8 c9
      cases r with
      | false=>
       clear hr;go_wp2_with fail;go_ret
       exact ⟨false,rfl,HB8.out,fun h=>by cases h⟩
      | true=>
       have HN:=h_ (HNX.out (hr rfl));clear hr;go_wp2_with fail
       go_roundw
       case rel=>exact ⟨q+1,by omega,by go_num,HN,HB8,HP8⟩
       case measure=>simp [Lib.intOf];omega
    ·have hge:¬ (q:Int) < (ar.length:Int):=by omega
     have HAA:=h_ (show (∀ y ∈ ar,RightX (d - 1) y/\FreeX y)/\(ar=[]\/0 < d) from ⟨fun y hy=>by
      obtain ⟨j,hj,rfl⟩:=List.getElem_of_mem hy
      exact (HAR.out j hj (by omega)).2,by
      rcases Nat.eq_zero_or_pos ar.length with h | h
      ·exact .inl (List.length_eq_zero_iff.1 h)
      ·exact .inr (HAR.out 0 h (by omega)).1⟩)
     have k1:=HP1.out.cell;have f1:=HP1.out.frozen;have l1:=HP1.out.lt;clear hlt;go_upto_region 11 with fail
     refine rr_bare HP1 hvl1 hvl2 (fun bb _ _ _ _ _ _ _ _ _ _ _ _ _ _ _ _ _ _ _ _ _ _ _ _ _ _ _ _ _ _ _ _ _ _ hbb=>?_)
     have HBB:=h_ hbb;clear hbb
     by_cases hk0:k=0
     ·have g0:(k==0)=true:=by rw [hk0];rfl
      have HK:=h_ hk0;clear hk0;go_upto_region 15 with fail;have HBA:=h_ (HBP.out.alloc HBP.out.size (.cells #[.int .i64 v.kind,.bool v.bool,.int .i64 v.int,.string v.str,.slice la v.list.length lc,.slice ma v.map.length mc] 41));have HPA:=h_ (HP1.out.keep (Below.new wr (.cells #[.int .i64 v.kind,.bool v.bool,.int .i64 v.int,.string v.str,.slice la v.list.length lc,.slice ma v.map.length mc] 41)));have H5:=h_ (Blk.new wr 41 #[.int .i64 v.kind,.bool v.bool,.int .i64 v.int,.string v.str,.slice la v.list.length lc,.slice ma v.map.length mc]);obtain ⟨WA,eA⟩:∃ z,z=wr.alloc (.cells #[.int .i64 v.kind,.bool v.bool,.int .i64 v.int,.string v.str,.slice la v.list.length lc,.slice ma v.map.length mc] 41):=⟨_,rfl⟩;obtain ⟨n5,e5⟩:∃ z,z=wr.heap.size:=⟨_,rfl⟩;rw [<-eA] at HBA HPA H5;rw [<-e5] at H5;rw [<-eA,<-e5];clear eA e5 k1 f1 l1
      refine rr_lit H5 HVI hvl1 hvl2 (fun ok _ _ _ _ _ _ _ _ _ _ _ _ _ _ _ _ _ _ _ _ _ _ _ _ _ _ _ _ _ _ _ _ _ _ _ _ _ _ _ _ _ _ _ _ _ _ _ _ hok=>?_)
      have HOK:=h_ hok;clear hok H5;go_upto_region 16 with fail
      refine rr_k0 HPA hn1 hn2 (fun r _ _ _ _ _ _ _ _ _ _ _ _ _ _ _ _ hr=>?_)
      have HRR:=h_ hr;clear hr;go_wp2_with fail;go_ret
      refine ⟨r,rfl,HBA.out,fun h=>?_⟩
      obtain ⟨r1,r2,r3,r4⟩:=HRR.out h
      exact right_mk0 HK.out (HOK.out r1) r2 r3 r4
     have g0:(k==0)=false:=bf_ hk0;have HK0:=h_ hk0;clear hk0
     by_cases hk1:k=1
     ·have g1:(k==1)=true:=by rw [hk1];rfl
      have HK:=h_ hk1;clear hk1;go_upto_region 18 with fail
      refine rr_k1 HP1 (fun r _ _ _ _ _ _ _ _ _ _ _ _ hr=>?_)
      have HRR:=h_ hr;clear hr;go_wp2_with fail;go_ret
      refine ⟨r,rfl,HBP.out,fun h=>?_⟩
      obtain ⟨r1,r2,r3⟩:=HRR.out h
      exact right_mk1 HK.out (HBB.out r1) r2 HSA.out r3
     have g1:(k==1)=false:=bf_ hk1;clear hk1
     by_cases hk2:k=2
     ·have g2:(k==2)=true:=by rw [hk2];rfl
      have HK:=h_ hk2;clear hk2;go_upto_region 20 with fail
      refine rr_k2 HP1 HNM (fun r _ _ _ _ _ _ _ _ _ _ _ _ hr=>?_)
      have HRR:=h_ hr;clear hr;go_wp2_with fail;go_ret
      refine ⟨r,rfl,HBP.out,fun h=>?_⟩
      obtain ⟨r1,r2,r3⟩:=HRR.out h
      exact right_mk2 HK.out (HBB.out r1) r2 HSA.out r3
     have g2:(k==2)=false:=bf_ hk2;clear hk2
     by_cases hk3:k=3
     ·have g3:(k==3)=true:=by rw [hk3];rfl
      have HK:=h_ hk3;clear hk3;go_upto_region 22 with fail
      refine rr_k3 HP1 HNM (fun r _ _ _ _ _ _ _ _ _ _ _ _ _ _ _ _ _ _ _ _ _ _ hr=>?_)
      have HRR:=h_ hr;clear hr;go_wp2_with fail;go_ret
      refine ⟨r,rfl,HBP.out,fun h=>?_⟩
      obtain ⟨r1,r2,r3,r4,r5⟩:=HRR.out h
      exact right_mk3 HK.out (HBB.out r1) r2 r3 r4 r5 HAA.out
     have g3:(k==3)=false:=bf_ hk3;clear hk3;go_wp2_with fail;go_ret
     exact ⟨false,rfl,HBP.out,fun h=>by cases h⟩
def RepU (w:World) (A:OA_) (L:LB_):Prop:=∀ i (h:i < L.length),∃ b o,A=some ⟨b,o,none⟩/\b < w.heap.size/\w.cell? ⟨b,o+i,none⟩=some (.int .u8 L[i].toNat)
theorem RepU.keep {w w':World} {A:OA_} {L:LB_} (h:RepU w A L) (hb:Below w.heap.size w w'):RepU w' A L:=fun i hi=>by
 obtain ⟨b,o,e,h1,h2⟩:=h i hi
 exact ⟨b,o,e,Nat.lt_of_lt_of_le h1 hb.size,(hb.cell (p:=⟨b,o+i,none⟩) h1).trans h2⟩
theorem repU_of {w:World} {A:OA_} {l:List Int} (h:RepI w (fun _=>True) .u8 A l) (hz:∀ t ∈ l,0<=t/\t<=255):∃ L:LB_,L.length=l.length/\RepU w A L:=by
 refine ⟨l.map (fun z=>UInt8.ofNat z.toNat),by simp,fun i hi=>?_⟩
 have hi2:i < l.length:=by simpa using hi
 obtain ⟨b,o,e, -,h1,h2⟩:=h i hi2
 refine ⟨b,o,e,h1,?_⟩
 obtain ⟨z1,z2⟩:=hz _ (List.getElem_mem hi2);rw [h2,List.getElem_map]
 have:((UInt8.ofNat l[i].toNat).toNat:Int)=l[i]:=by
  rw [UInt8.toNat_ofNat']
  omega
 rw [this]
theorem stAt_new {w:World} {A:OA_} {c:Nat} {L:LB_} (h:RepU w A L) (hl:L.length<=200):StAt (w.alloc (.cells #[.slice A L.length c,.int .i64 0] 28)) w.heap.size A c L 0:=
 ⟨Blk.new _ _ _,fun i hi=>by
  obtain ⟨b,o,e,h1,h2⟩:=h i hi;have hb:=Below.new w (.cells #[.slice A L.length c,.int .i64 0] 28)
  exact ⟨b,o,e,by omega,Nat.lt_of_lt_of_le h1 hb.size,(hb.cell (p:=⟨b,o+i,none⟩) h1).trans h2⟩,by omega⟩
end Go.Proofs.YtnblmhfgmehnnaaGreatDoor
