/- Several texts as one. -/
import Derived.Test.YtnblmhfgmehnnaaGreatDoorPeFo
import Derived.Test.YtnblmhfgmehnnaaGreatDoorPeMv
import Derived.Test.YtnblmhfgmehnnaaGreatDoorPeAS
import Derived.Test.YtnblmhfgmehnnaaGreatDoorPeAC
import Derived.Test.YtnblmhfgmehnnaaGreatDoorPeAG
import Derived.Deep.RegionHeld3
import Derived.Deep.DrawnRows
import Derived.Test.YtnblmhfgmehnnaaGreatDoorRows
import Derived.Test.YtnblmhfgmehnnaaGreatDoorPeAA
import Derived.Deep.DeepCutAuto
import Derived.BigQuiet
import Derived.Deep.QuietTactic
import Derived.Test.YtnblmhfgmehnnaaGreatDoorShv
set_option maxRecDepth 100000
set_option maxHeartbeats 16000000
namespace Go.Proofs.YtnblmhfgmehnnaaGreatDoor
open Go.RowKit Go.Lib
attribute [local go_sem ↓] Go.wp_at_zero Go.wp_at_succ
structure At8 (gs:Nat) (A:OA_) (c:Nat) (L:LB_) (n d:Nat) (x:Ex) (F:LB_ × Nat) (W1 wr:World) (m:Nat) (sv:ByteArray) (a1:Nat):Prop where
 le:m<=x.args.length
 text:sv.data.toList++(x.name.data.toList++(argsW L (pipW L n) (x.args.take m) a1).1)=F.1
 at_:(argsW L (pipW L n) (x.args.take m) a1).2=F.2
 sum:a1+6*((x.args.take m).map (wtX (d - 1))).sum+2<=1000000000
 st:StAt wr gs A c L a1
 bar:Bar W1 wr gs
section
variable {gs:Nat} {A:OA_} {c:Nat} {L:LB_}
theorem op_low {n d:Nat} {x:Ex} {a:Nat} {W:World} {S:Nat->Prop} {cs:List Value} (hR:RightX d x) (hk3:x.kind≠3) (h:StAt W gs A c L a) (hx:RepX W S cs x) (hz2:40*wtX d x<=1000000):Calls Tryz.prog 33 #[.pointer (some ⟨gs,0,none⟩),.agg (List.toArray cs)] W (WrPost gs A c L (opW L (pipW L n) x a) W):=by
 have ho:=hR.own;have hst:=wtX_step hR
 have hwo:wtO x<=25000:=by omega
 rcases ho.kind with hk | hk | hk | hk
 ·have e:opW L (pipW L n) x a=(litW x.val,a):=by unfold opW;rw [if_pos hk]
  rw [e]
  exact op_r0 ho hk h hx hwo
 ·have e:opW L (pipW L n) x a=(if x.steps=[] then [46] else stepsW x.steps,a):=by unfold opW;rw [if_neg (by omega),if_pos hk]
  rw [e]
  exact op_r1 hk h hx hwo
 ·have e:opW L (pipW L n) x a=(36::(x.name.data.toList++stepsW x.steps),a):=by unfold opW;rw [if_neg (by omega),if_neg (by omega),if_pos hk]
  rw [e]
  exact op_r2 hk h hx hwo
 ·exact absurd hk hk3
theorem sum_mem {α:Type} (f:α->Nat) {y:α}:∀ {l:List α},y ∈ l->f y<=(l.map f).sum
 | [],h=>by cases h
 | a::l,h=>by
  rw [List.map_cons,List.sum_cons]
  rcases List.mem_cons.1 h with rfl | h
  ·omega
  ·have:=sum_mem f h;omega
theorem drop_cons {α:Type} {l:List α} {q:Nat} (h:q < l.length):l.drop q=l[q]::l.drop (q+1):=List.drop_eq_getElem_cons h
theorem pi_low {n d:Nat} {x:Ex} {a:Nat} {W:World} {S:Nat->Prop} {cs:List Value} (hR:RightX d x) (hk3:x.kind≠3) (h:StAt W gs A c L a) (hx:RepX W S cs x) (hz2:40*wtX d x<=1000000):Calls Tryz.prog 18 #[.pointer (some ⟨gs,0,none⟩),.agg (List.toArray cs)] W (WrPost gs A c L (opW L (pipW L n) x a) W):=by
 obtain ⟨la,lc,ma,mc,sa,sc,aa,ac,rfl,hp⟩:=hx.inv;have hgs:=h.blk.lt;have hba:=Below.new W (.cells (aX x la lc ma mc sa sc aa ac) 45);have h0:=Blk.new W 45 (aX x la lc ma mc sa sc aa ac);have HB:=h_ (Bar.of (gc:=gs) hba);have H0:=h_ h0;have CO:=h_ (op_low (n:=n) hR hk3 (h.keep hba) (hx.keep hba) hz2);have g3:(x.kind !=3)=true:=bne_iff_ne.2 hk3;obtain ⟨W1,e1⟩:∃ z,z=W.alloc (.cells (aX x la lc ma mc sa sc aa ac) 45):=⟨_,rfl⟩;obtain ⟨n3,e3⟩:∃ z,z=W.heap.size:=⟨_,rfl⟩;rw [<-e1] at CO HB H0;rw [<-e3] at H0;have E1:=h_ e1;have E3:=h_ e3;clear h hx hp hba h0 e1 e3 hk3;have k0:=H0.out.cell;have f0:=H0.out.frozen;have l0:=H0.out.lt;unfold aX at *
 go_enter Tryz.func18,Tryz.ntmps18
 go_upto_region 1 with fail;rw [<-E1.out,<-E3.out];go_wp2_with fail
 refine CO.out.mono ?_
 rintro e w2 ⟨rfl,hs2,hbar2⟩;have HS2:=h_ hs2;have HB2:=h_ (HB.out.trans hbar2);clear hs2 hbar2 k0 f0 l0;go_wp2_with fail;go_ret
 exact ⟨rfl,HS2.out,HB2.out⟩
theorem pi_call {n d:Nat} {x:Ex} {a:Nat} {W:World} {S:Nat->Prop} {cs:List Value} (hO:OpR gs A c L n) (hP:PiR gs A c L n) (hR:RightX d x) (hn:d+1<=n+1) (hk:x.kind=3) (h:StAt W gs A c L a) (hx:RepX W S cs x) (hS:∀ b,S b->b≠gs) (hz:a+6*wtX d x<=1000000000) (hz2:40*wtX d x<=1000000):Calls Tryz.prog 18 #[.pointer (some ⟨gs,0,none⟩),.agg (List.toArray cs)] W (WrPost gs A c L (pipW L (n+1) x a) W):=by
 have hlen:=(pip_len L (n+1) d x a hR hn).1;have hst:=wtX_step hR;have hargs:=hR.args;obtain ⟨la,lc,ma,mc,sa,sc,aa,ac,rfl,hp⟩:=hx.inv;have hgs:=h.blk.lt;have hba:=Below.new W (.cells #[.int .i64 x.kind,.int .i64 x.val.kind,.bool x.val.bool,.int .i64 x.val.int,.string x.val.str,.slice la x.val.list.length lc,.slice ma x.val.map.length mc,.string x.name,.slice sa x.steps.length sc,.slice aa x.args.length ac] 45);have h0:=Blk.new W 45 #[.int .i64 x.kind,.int .i64 x.val.kind,.bool x.val.bool,.int .i64 x.val.int,.string x.val.str,.slice la x.val.list.length lc,.slice ma x.val.map.length mc,.string x.name,.slice sa x.steps.length sc,.slice aa x.args.length ac];have HS:=h_ (h.keep hba);have HB:=h_ (Bar.of (gc:=gs) hba);have H0:=h_ h0;have HXA:=h_ (show RepXs (W.alloc (.cells #[.int .i64 x.kind,.int .i64 x.val.kind,.bool x.val.bool,.int .i64 x.val.int,.string x.val.str,.slice la x.val.list.length lc,.slice ma x.val.map.length mc,.string x.name,.slice sa x.steps.length sc,.slice aa x.args.length ac] 45)) S aa x.args from hp.args.keep hba)
 have g3:(x.kind !=3)=false:=by rw [hk];rfl
 have hac:=hp.aroom.2.2
 have hpw:pipW L (n+1) x a=(match x.args.getLast? with
   | none=>callW L (pipW L n) x [] [] a
   | some y=>
    if (pickW L a 3).1=1 then
     callW L (pipW L n) x x.args.dropLast ((pipW L n y (pickW L a 3).2).1++((gapW L (pipW L n y (pickW L a 3).2).2).1++(124::(gapW L (gapW L (pipW L n y (pickW L a 3).2).2).2).1))) (gapW L (gapW L (pipW L n y (pickW L a 3).2).2).2).2
    else callW L (pipW L n) x x.args [] (pickW L a 3).2):=by rw [pipW,if_neg (fun h=>h hk)];rfl
 obtain ⟨W1,e1⟩:∃ z,z=W.alloc (.cells #[.int .i64 x.kind,.int .i64 x.val.kind,.bool x.val.bool,.int .i64 x.val.int,.string x.val.str,.slice la x.val.list.length lc,.slice ma x.val.map.length mc,.string x.name,.slice sa x.steps.length sc,.slice aa x.args.length ac] 45):=⟨_,rfl⟩;obtain ⟨n3,e3⟩:∃ z,z=W.heap.size:=⟨_,rfl⟩;rw [<-e1] at HS HB H0 HXA;rw [<-e3] at H0
 have hn3:n3≠gs:=by omega
 have E1:=h_ e1;have E3:=h_ e3;obtain ⟨F,hF⟩:∃ z,z=pipW L (n+1) x a:=⟨_,rfl⟩;rw [<-hF] at hlen hpw ⊢;have HPW:=h_ hpw;have HAR:=h_ hargs;have HST:=h_ hst;have HOO:=h_ hO;have HPP:=h_ hP
 have hwo:1<=wtO x:=by unfold wtO;omega
 have hFl:F.1.length<=1000000:=by omega
 have hdn:0 < d->d - 1+1<=n:=by omega
 clear h hx hp hba h0 e1 e3 hk hF hpw hargs hlen hst hO hP
 have hrest:∀ (m:Nat) (sv:ByteArray) (a1:Nat) (wr:World),m<=x.args.length->sv.data.toList++(x.name.data.toList++(argsW L (pipW L n) (x.args.take m) a1).1)=F.1->(argsW L (pipW L n) (x.args.take m) a1).2=F.2->a1+6*((x.args.take m).map (wtX (d - 1))).sum+2<=1000000000->StAt wr gs A c L a1->Bar W1 wr gs->At8 gs A c L n d x F W1 wr m sv a1:=fun m sv a1 wr h1 h2 h3 h4 h5 h6=>⟨h1,h2,h3,h4,h5,h6⟩
 have HREST:=h_ hrest;clear hrest
 cases hl:x.args.getLast? with
 | none=>
  have hnil:x.args=[]:=by simpa using hl
  have gl:((x.args.length:Int))=0:=by rw [hnil];rfl
  have hF:=HPW.out;have hw:=HST.out;rw [hl] at hF
  simp only at hF
  have HAT:=h_ (HREST.out x.args.length ⟨#[]⟩ a W1 (Nat.le_refl _) (by rw [hF,hnil];rfl) (by rw [hF,hnil];rfl) (by rw [hnil];simp;omega) HS.out (Bar.refl _ _));have g5:decide (0 < x.args.length)=false:=decide_eq_false (by omega);clear hl hnil gl hF HREST HPW hw;have k0:=H0.out.cell;have f0:=H0.out.frozen;have l0:=H0.out.lt
  go_enter Tryz.func18,Tryz.ntmps18
  go_upto_region 1 with fail;rw [<-E1.out,<-E3.out];go_upto_region 8 with fail;have k0:=H0.out.cell;have f0:=H0.out.frozen;have l0:=H0.out.lt
  have hz8:ByteArray.size ⟨#[]⟩+x.name.size<=1000000:=by have h9:=congrArg List.length HAT.out.text;rw [List.length_append,List.length_append,<-size_list,<-size_list] at h9;omega
  have hz9:ByteArray.size ⟨#[]⟩<=1000000:=by omega
  have hML:=HAT.out.le;have HI0:=h_ (show ((⟨#[]⟩++x.name).data.toList++(argsW L (pipW L n) ((x.args.take x.args.length).drop 0) a).1=F.1/\(argsW L (pipW L n) ((x.args.take x.args.length).drop 0) a).2=F.2) from ⟨by rw [List.drop_zero,<-HAT.out.text];simp,by rw [List.drop_zero];exact HAT.out.at_⟩);have HI1:=h_ (show a+6*(((x.args.take x.args.length).drop 0).map (wtX (d - 1))).sum+2<=1000000000 from by rw [List.drop_zero];exact HAT.out.sum);have HI2:=h_ HAT.out.st;have HI3:=h_ HAT.out.bar;clear HAT;go_wp2_with fail
  go_loopw [6,7] (fun x6 x7 wr=>∃ (q:Nat) (tv:ByteArray) (aq:Nat),q<=x.args.length/\x7=.int .i64 q/\x6=.string tv/\Hid (tv.data.toList++(argsW L (pipW L n) ((x.args.take x.args.length).drop q) aq).1=F.1/\(argsW L (pipW L n) ((x.args.take x.args.length).drop q) aq).2=F.2)/\Hid (aq+6*(((x.args.take x.args.length).drop q).map (wtX (d - 1))).sum+2<=1000000000)/\Hid (StAt wr gs A c L aq)/\Hid (Bar W1 wr gs)) (fun _ x7 _=>x.args.length - (Lib.intOf x7).toNat)
  case atStart=>exact ⟨0,_,a,Nat.zero_le _,rfl,rfl,HI0,HI1,HI2,HI3⟩
  case round=>
   obtain ⟨q,tv,aq,hq,rfl,rfl,HQ,HQS,HQT,HQB⟩:=hrel;clear k0 f0 l0 HI0 HI1 HI2 HI3
   by_cases hlt:q < x.args.length
   ·have hqx:q < x.args.length:=by omega
    obtain ⟨b2,bo2,csq,eaa,hSb2,hcy2,hxy2⟩:=HXA.out q hqx
    cases eaa
    obtain ⟨yq,hy⟩:∃ z,z=x.args[q]:=⟨_,rfl⟩;rw [<-hy] at hxy2
    have hmem:yq ∈ x.args:=by rw [hy];exact List.getElem_mem _
    have hRy2:=HAR.out yq hmem;have hdp2:0 < d:=hR.deep.resolve_left (fun e=>by rw [e] at hmem;cases hmem)
    have hdr:(x.args.take x.args.length).drop q=yq::(x.args.take x.args.length).drop (q+1):=by rw [drop_cons (by rw [List.length_take];omega),hy,List.getElem_take]
    have hsm:=HQS.out;have hq2:=HQ.out;rw [hdr,argsW] at hq2;rw [hdr] at hsm
    simp only [List.map_cons,List.sum_cons] at hsm
    simp only at hq2
    have hwy:=sum_mem (wtX (d - 1)) hmem;have hwx:=HST.out;have hgl3:=gap_len L aq;have CG0:=tgap gs A c L aq wr.drew (HQT.out.keep (Below.drew (Below.refl _ _))) (by omega);obtain ⟨⟨g,a2⟩,hg⟩:∃ z,z=gapW L aq:=⟨_,rfl⟩;rw [<-hg] at hq2 hgl3 CG0
    simp only at hq2 hgl3 CG0
    have hol:=op_len (pip_len L n) (a:=a2) hRy2 (hdn hdp2);obtain ⟨laq,lcq,maq,mcq,saq,scq,aaq,acq,rfl, -⟩:=hxy2.inv
    have hA9:a2+6*wtX (d - 1) yq < 1000000000:=by omega
    have hB9:40*wtX (d - 1) yq<=1000000:=by omega
    have CO:=fun (w2:World) (hs2:StAt w2 gs A c L a2) (hx2:RepX w2 S [.int .i64 yq.kind,.int .i64 yq.val.kind,.bool yq.val.bool,.int .i64 yq.val.int,.string yq.val.str,.slice laq yq.val.list.length lcq,.slice maq yq.val.map.length mcq,.string yq.name,.slice saq yq.steps.length scq,.slice aaq yq.args.length acq] yq)=>HOO.out (d - 1) yq a2 w2 S _ hRy2 (hdn hdp2) hs2 hx2 hS hA9 hB9
    obtain ⟨⟨o,a3⟩,ho⟩:∃ z,z=opW L (pipW L n) yq a2:=⟨_,rfl⟩;rw [<-ho] at CO hq2 hol
    simp only at CO hq2 hol
    obtain ⟨sg,hsg⟩:∃ z,z=bs g:=⟨_,rfl⟩;obtain ⟨so,hso⟩:∃ z,z=bs o:=⟨_,rfl⟩;rw [<-hsg] at CG0;have CGH:=h_ CG0;have COH:=h_ (fun (w2:World) (h1:StAt w2 gs A c L a2) (h2:RepX w2 S [.int .i64 yq.kind,.int .i64 yq.val.kind,.bool yq.val.bool,.int .i64 yq.val.int,.string yq.val.str,.slice laq yq.val.list.length lcq,.slice maq yq.val.map.length mcq,.string yq.name,.slice saq yq.steps.length scq,.slice aaq yq.args.length acq] yq)=>show Calls Tryz.prog 33 #[.pointer (some ⟨gs,0,none⟩),.agg #[.int .i64 yq.kind,.int .i64 yq.val.kind,.bool yq.val.bool,.int .i64 yq.val.int,.string yq.val.str,.slice laq yq.val.list.length lcq,.slice maq yq.val.map.length mcq,.string yq.name,.slice saq yq.steps.length scq,.slice aaq yq.args.length acq]] w2 (fun e w'=>e=.returned (.string so)/\StAt w' gs A c L a3/\Bar w2 w' gs) from by rw [hso];exact CO w2 h1 h2);have HN:=h_ (show (tv++sg++so).data.toList++(argsW L (pipW L n) ((x.args.take x.args.length).drop (q+1)) a3).1=F.1/\(argsW L (pipW L n) ((x.args.take x.args.length).drop (q+1)) a3).2=F.2 from ⟨by rw [<-hq2.1,hsg,hso];simp,hq2.2⟩);have HNS:=h_ (show a3+6*(((x.args.take x.args.length).drop (q+1)).map (wtX (d - 1))).sum+2<=1000000000 from by omega)
    have hzz:tv.size+sg.size+so.size<=1000000:=by have h9:=congrArg List.length hq2.1;simp only [List.length_append] at h9;have e1:=size_list tv;(have e2:sg.size=g.length:=by rw [hsg,bs_size]);(have e3:so.size=o.length:=by rw [hso,bs_size]);omega
    have hz3:tv.size<=1000000:=by omega
    have hz4:tv.size+sg.size<=1000000:=by omega
    have hnot1:¬ 9223372036854775807 < tv.size+sg.size:=by omega
    have hnot2:¬ 9223372036854775807 < tv.size+sg.size+so.size:=by omega
    have hbl2:b2 < W1.heap.size:=hcy2.lt
    have hcw2:cellsAt wr b2 (bo2+q*10) [.int .i64 yq.kind,.int .i64 yq.val.kind,.bool yq.val.bool,.int .i64 yq.val.int,.string yq.val.str,.slice laq yq.val.list.length lcq,.slice maq yq.val.map.length mcq,.string yq.name,.slice saq yq.steps.length scq,.slice aaq yq.args.length acq]:=hcy2.keep fun i=>HQB.out.cell hbl2 (hS b2 hSb2)
    have hlwr:b2 < wr.heap.size:=Nat.lt_of_lt_of_le hbl2 HQB.out.size;have hneb:b2≠gs:=hS b2 hSb2;have hn3r:n3 < wr.heap.size:=Nat.lt_of_lt_of_le H0.out.lt HQB.out.size;have HX0:=h_ (HQB.out.blk H0.out hn3);have HSS:=h_ (show ∀ wx,Bar wr wx gs->(fun w'=>(∀ i,w'.cell? ⟨n3,i,none⟩=(#[.int .i64 x.kind,.int .i64 x.val.kind,.bool x.val.bool,.int .i64 x.val.int,.string x.val.str,.slice la x.val.list.length lc,.slice ma x.val.map.length mc,.string x.name,.slice sa x.steps.length sc,.slice (some ⟨b2,bo2,none⟩) x.args.length ac]:Array Value)[i]?)/\w'.cell? ⟨b2,bo2+q*10,none⟩=some (.int .i64 yq.kind)/\w'.cell? ⟨b2,bo2+q*10+1,none⟩=some (.int .i64 yq.val.kind)/\w'.cell? ⟨b2,bo2+q*10+2,none⟩=some (.bool yq.val.bool)/\w'.cell? ⟨b2,bo2+q*10+3,none⟩=some (.int .i64 yq.val.int)/\w'.cell? ⟨b2,bo2+q*10+4,none⟩=some (.string yq.val.str)/\w'.cell? ⟨b2,bo2+q*10+5,none⟩=some (.slice laq yq.val.list.length lcq)/\w'.cell? ⟨b2,bo2+q*10+6,none⟩=some (.slice maq yq.val.map.length mcq)/\w'.cell? ⟨b2,bo2+q*10+7,none⟩=some (.string yq.name)/\w'.cell? ⟨b2,bo2+q*10+8,none⟩=some (.slice saq yq.steps.length scq)/\w'.cell? ⟨b2,bo2+q*10+9,none⟩=some (.slice aaq yq.args.length acq)) wx from fun wx hx=>⟨(hx.blk HX0.out hn3).cell,(hx.cell (o:=bo2+q*10) hlwr hneb).trans (hcw2 0 _ rfl),(hx.cell (o:=bo2+q*10+1) hlwr hneb).trans (hcw2 1 _ rfl),(hx.cell (o:=bo2+q*10+2) hlwr hneb).trans (hcw2 2 _ rfl),(hx.cell (o:=bo2+q*10+3) hlwr hneb).trans (hcw2 3 _ rfl),(hx.cell (o:=bo2+q*10+4) hlwr hneb).trans (hcw2 4 _ rfl),(hx.cell (o:=bo2+q*10+5) hlwr hneb).trans (hcw2 5 _ rfl),(hx.cell (o:=bo2+q*10+6) hlwr hneb).trans (hcw2 6 _ rfl),(hx.cell (o:=bo2+q*10+7) hlwr hneb).trans (hcw2 7 _ rfl),(hx.cell (o:=bo2+q*10+8) hlwr hneb).trans (hcw2 8 _ rfl),(hx.cell (o:=bo2+q*10+9) hlwr hneb).trans (hcw2 9 _ rfl)⟩);have HXY3:=h_ (hxy2.bar HQB.out hS)
    have hg0:(0:Int)<=(q:Int):=by omega
    have hg1:(q:Int) < (x.args.length:Int):=by omega
    have hg2:(q:Int) < ((x.args.length:Nat):Int):=by omega
    have hwk2:IntKind.i64.wrap ((q:Int)+1)=(q:Int)+1:=wrap_fit (by omega) (by omega);clear hcy2 hxy2 hy hmem hdr hsm hq2 hwy hwx hg ho hsg hso CO CG0 hcw2 HQ HQS;go_upto_region 12 with fail
    refine wp_region_tail (S:=(fun w'=>(∀ i,w'.cell? ⟨n3,i,none⟩=(#[.int .i64 x.kind,.int .i64 x.val.kind,.bool x.val.bool,.int .i64 x.val.int,.string x.val.str,.slice la x.val.list.length lc,.slice ma x.val.map.length mc,.string x.name,.slice sa x.steps.length sc,.slice (some ⟨b2,bo2,none⟩) x.args.length ac]:Array Value)[i]?)/\w'.cell? ⟨b2,bo2+q*10,none⟩=some (.int .i64 yq.kind)/\w'.cell? ⟨b2,bo2+q*10+1,none⟩=some (.int .i64 yq.val.kind)/\w'.cell? ⟨b2,bo2+q*10+2,none⟩=some (.bool yq.val.bool)/\w'.cell? ⟨b2,bo2+q*10+3,none⟩=some (.int .i64 yq.val.int)/\w'.cell? ⟨b2,bo2+q*10+4,none⟩=some (.string yq.val.str)/\w'.cell? ⟨b2,bo2+q*10+5,none⟩=some (.slice laq yq.val.list.length lcq)/\w'.cell? ⟨b2,bo2+q*10+6,none⟩=some (.slice maq yq.val.map.length mcq)/\w'.cell? ⟨b2,bo2+q*10+7,none⟩=some (.string yq.name)/\w'.cell? ⟨b2,bo2+q*10+8,none⟩=some (.slice saq yq.steps.length scq)/\w'.cell? ⟨b2,bo2+q*10+9,none⟩=some (.slice aaq yq.args.length acq))) 12 (by kernel_rfl) (by kernel_rfl) (by exact HSS.out _ (Bar.of (Below.drew (Below.refl _ _)))) (fun hHeld=>?_)
    simp only [List.dropLast]
    refine mv_ 0 ?_
    refine mv_ 1 ?_
    refine mv_ 4 ?_
    refine mv_ 5 ?_
    refine mv_ 6 ?_
    refine mv_ 7 ?_
    refine mv_ 8 ?_
    refine mv_ 9 ?_
    refine mr_ 2 (fun K hK=>?_)
    go_simp
    refine CGH.out.mono ?_
    rintro e w8 ⟨rfl,hst8,hbar8⟩;have HG8:=h_ ((Bar.of (gc:=gs) (Below.drew (Below.refl wr.heap.size wr))).trans hbar8);have HT8:=h_ hst8;clear hst8 hbar8;go_wp2_with fail
    refine hK.out _ _ (by exact HSS.out _ HG8.out) (fun hHeld=>?_)
    clear hK K
    try simp only [Act.put,pA_,pB_,pC_]
    refine mv_ 3 ?_
    refine mr_ 10 (fun K hK=>?_)
    go_simp
    refine (COH.out _ HT8.out (HXY3.out.bar HG8.out hS)).mono ?_
    rintro e w9 ⟨rfl,hst9,hbar9⟩;have HG9:=h_ (HG8.out.trans hbar9);have HT9:=h_ hst9;clear hst9 hbar9;go_wp2_with fail
    refine hK.out _ _ (by exact HSS.out _ HG9.out) (fun hHeld=>?_)
    clear hK K
    try simp only [Act.put,pA_,pB_,pC_]
    refine mv_ 11 ?_
    refine wpAnyH_done (by kernel_rfl) ?_ _
    refine LastQ.step (by conv=>lhs;simp only [List.getElem?_toArray,List.getElem?_cons_succ,List.getElem?_cons_zero]) (fun K hK=>?_)
    go_simp
    refine hK.out _ _ ?_
    clear hK K
    try simp only [Act.put,pA_,pB_,pC_]
    go_wp2_with fail
    go_roundw
    case rel=>exact ⟨q+1,_,a3,by omega,by go_num,rfl,HN,HNS,HT9,h_ (HQB.out.trans HG9.out)⟩
    case measure=>simp [Lib.intOf];omega
   ·obtain rfl:q=x.args.length:=by omega
    have HE:=h_ (show F=(tv.data.toList,aq) from by have h9:=HQ.out;rw [List.drop_eq_nil_of_le (by rw [List.length_take];omega)] at h9;have h8:=h9.1;unfold argsW at h8;rw [List.append_nil] at h8;exact (Prod.ext (show tv.data.toList=F.1 from h8) (show aq=F.2 from h9.2)).symm);clear hlt;go_wp2_with fail;go_ret
    exact ⟨by rw [HE.out];rfl,by rw [HE.out];exact HQT.out,HB.out.trans HQB.out⟩
 | some y=>
  have hne:x.args≠[]:=fun e=>by rw [e] at hl;cases hl
  have hpos:=List.length_pos_iff.2 hne;have hcat:=last_cat hl;have g5:decide (0 < x.args.length)=true:=decide_eq_true hpos;have hpk:=pick_next L a 3;have CP:=tpick gs A c L a 3 W1 HS.out (by omega) (by omega) (by omega);have hF:=HPW.out;rw [hl] at hF
  simp only at hF
  obtain ⟨⟨p1,p2⟩,hpp⟩:∃ z,z=pickW L a 3:=⟨_,rfl⟩;rw [<-hpp] at CP hpk hF
  simp only at CP hpk hF
  have CPH:=h_ CP;have hw:=HST.out;clear CP hpp HPW
  by_cases hp1:p1=1
  ·rw [if_pos hp1] at hF
   have gp:((p1:Int)==1)=true:=by rw [hp1];rfl
   obtain ⟨m,hm⟩:∃ z,z=x.args.length - 1:=⟨_,rfl⟩
   have hml:m+1=x.args.length:=by omega
   have hmi:(x.args.length:Int) - 1=(m:Int):=by omega
   have htk:x.args.take m=x.args.dropLast:=by rw [hm,List.dropLast_eq_take]
   have hym:x.args[m]'(by omega)=y:=by
    have h9:(x.args.dropLast++[y])[m]? =x.args[m]? :=by rw [hcat]
    rw [List.getElem?_append_right (by simp;omega)] at h9
    have h8:m - x.args.dropLast.length=0:=by simp;omega
    rw [h8,List.getElem?_eq_getElem (by omega:m < x.args.length)] at h9
    simp at h9
    exact h9.symm
   obtain ⟨b,bo,csy,rfl,hSb,hcy,hxy⟩:=HXA.out m (by omega);rw [hym] at hxy;have hRy:=HAR.out y (by rw [<-hym];exact List.getElem_mem _);have hdp:0 < d:=hR.deep.resolve_left hne
   have hsum:(x.args.map (wtX (d - 1))).sum=((x.args.take m).map (wtX (d - 1))).sum+wtX (d - 1) y:=by
    rw [htk]
    conv=>lhs;rw [<-hcat]
    rw [List.map_append,List.sum_append]
    simp
   have hly:=pip_len L n (d - 1) y p2 hRy (hdn hdp);obtain ⟨lay,lcy,may,mcy,say,scy,aay,acy,rfl, -⟩:=hxy.inv;obtain ⟨⟨u,a3⟩,hu⟩:∃ z,z=pipW L n y p2:=⟨_,rfl⟩
   have CY:=fun (w2:World) (hs2:StAt w2 gs A c L p2) (hx2:RepX w2 S [.int .i64 y.kind,.int .i64 y.val.kind,.bool y.val.bool,.int .i64 y.val.int,.string y.val.str,.slice lay y.val.list.length lcy,.slice may y.val.map.length mcy,.string y.name,.slice say y.steps.length scy,.slice aay y.args.length acy] y)=>HPP.out (d - 1) y p2 w2 S _ hRy (hdn hdp) hs2 hx2 hS (by omega) (by omega)
   rw [<-hu] at CY hF hly
   simp only at CY hF hly
   have hgl1:=gap_len L a3;obtain ⟨⟨v1,a4⟩,hv1⟩:∃ z,z=gapW L a3:=⟨_,rfl⟩;rw [<-hv1] at hF hgl1
   simp only at hF hgl1
   have hgl2:=gap_len L a4;obtain ⟨⟨v2,a5⟩,hv2⟩:∃ z,z=gapW L a4:=⟨_,rfl⟩;rw [<-hv2] at hF hgl2
   simp only at hF hgl2
   have CG1:=h_ (fun (w2:World) (hs2:StAt w2 gs A c L a3)=>show Calls Tryz.prog 35 #[.pointer (some ⟨gs,0,none⟩)] w2 (fun e w'=>e=.returned (.string (bs v1))/\StAt w' gs A c L a4/\Bar w2 w' gs) from by have h9:=tgap gs A c L a3 w2 hs2 (by omega);rw [<-hv1] at h9;exact h9);have CG2:=h_ (fun (w2:World) (hs2:StAt w2 gs A c L a4)=>show Calls Tryz.prog 35 #[.pointer (some ⟨gs,0,none⟩)] w2 (fun e w'=>e=.returned (.string (bs v2))/\StAt w' gs A c L a5/\Bar w2 w' gs) from by have h9:=tgap gs A c L a4 w2 hs2 (by omega);rw [<-hv2] at h9;exact h9);obtain ⟨su,hsu⟩:∃ z,z=bs u:=⟨_,rfl⟩;obtain ⟨s1,hs1⟩:∃ z,z=bs v1:=⟨_,rfl⟩;obtain ⟨s2,hs2⟩:∃ z,z=bs v2:=⟨_,rfl⟩;have CYH:=h_ (fun (w2:World) (h1:StAt w2 gs A c L p2) (h2:RepX w2 S [.int .i64 y.kind,.int .i64 y.val.kind,.bool y.val.bool,.int .i64 y.val.int,.string y.val.str,.slice lay y.val.list.length lcy,.slice may y.val.map.length mcy,.string y.name,.slice say y.steps.length scy,.slice aay y.args.length acy] y)=>show Calls Tryz.prog 18 #[.pointer (some ⟨gs,0,none⟩),.agg #[.int .i64 y.kind,.int .i64 y.val.kind,.bool y.val.bool,.int .i64 y.val.int,.string y.val.str,.slice lay y.val.list.length lcy,.slice may y.val.map.length mcy,.string y.name,.slice say y.steps.length scy,.slice aay y.args.length acy]] w2 (fun e w'=>e=.returned (.string su)/\StAt w' gs A c L a3/\Bar w2 w' gs) from by rw [hsu];exact CY w2 h1 h2);rw [<-hs1] at CG1;rw [<-hs2] at CG2
   have z0:su.size<=1000000:=by rw [hsu,bs_size];omega
   have z1:s1.size<=2:=by rw [hs1,bs_size];exact hgl1.1
   have z2:s2.size<=2:=by rw [hs2,bs_size];exact hgl2.1
   have hlist:(su++s1++⟨#[124]⟩++s2).data.toList=u++(v1++(124::v2)):=by rw [hsu,hs1,hs2];simp
   have HAT:=h_ (fun (w9:World) (h5:StAt w9 gs A c L a5) (h6:Bar W1 w9 gs)=>HREST.out m (su++s1++⟨#[124]⟩++s2) a5 w9 (by omega) (by rw [hlist,htk,hF];unfold callW;simp only [List.append_assoc,List.cons_append]) (by rw [htk,hF];rfl) (by omega) h5 h6);have hbl:b < W1.heap.size:=hcy.lt;have HC:=h_ (fun (w2:World) (hb2:Bar W1 w2 gs)=>show cellsAt w2 b (bo+m*10) [.int .i64 y.kind,.int .i64 y.val.kind,.bool y.val.bool,.int .i64 y.val.int,.string y.val.str,.slice lay y.val.list.length lcy,.slice may y.val.map.length mcy,.string y.name,.slice say y.steps.length scy,.slice aay y.args.length acy] from hcy.keep fun i=>hb2.cell hbl (hS b hSb));have HXY:=h_ hxy
   have hg0:(0:Int)<=(m:Int):=by omega
   have hg1:(m:Int) < (x.args.length:Int):=by omega
   have HMI:=h_ hmi
   have hwk:IntKind.i64.wrap ((x.args.length:Int) - 1)=(m:Int):=by rw [hmi];exact wrap_fit (by omega) (by omega)
   clear hm hml hmi htk hym hcy hxy hRy hsum hly CY hu hv1 hv2 hsu hs1 hs2 hlist hF hl hne hcat hp1 hw HREST;have k0:=H0.out.cell;have f0:=H0.out.frozen;have l0:=H0.out.lt
   go_enter Tryz.func18,Tryz.ntmps18
   go_upto_region 1 with fail;rw [<-E1.out,<-E3.out];go_wp2_with fail
   refine CPH.out.mono ?_
   rintro e w2 ⟨rfl,hst2,hbar2⟩;have HST2:=h_ hst2;have HBR2:=h_ hbar2;have H02:=h_ (hbar2.blk H0.out hn3);have HXY2:=h_ (HXY.out.bar hbar2 hS);have hcw:=HC.out w2 hbar2;have c0:w2.cell? ⟨b,bo+m*10,none⟩=some (.int .i64 y.kind):=hcw 0 _ rfl;have c1:w2.cell? ⟨b,bo+m*10+1,none⟩=some (.int .i64 y.val.kind):=hcw 1 _ rfl;have c2:w2.cell? ⟨b,bo+m*10+2,none⟩=some (.bool y.val.bool):=hcw 2 _ rfl;have c3:w2.cell? ⟨b,bo+m*10+3,none⟩=some (.int .i64 y.val.int):=hcw 3 _ rfl;have c4:w2.cell? ⟨b,bo+m*10+4,none⟩=some (.string y.val.str):=hcw 4 _ rfl;have c5:w2.cell? ⟨b,bo+m*10+5,none⟩=some (.slice lay y.val.list.length lcy):=hcw 5 _ rfl;have c6:w2.cell? ⟨b,bo+m*10+6,none⟩=some (.slice may y.val.map.length mcy):=hcw 6 _ rfl;have c7:w2.cell? ⟨b,bo+m*10+7,none⟩=some (.string y.name):=hcw 7 _ rfl;have c8:w2.cell? ⟨b,bo+m*10+8,none⟩=some (.slice say y.steps.length scy):=hcw 8 _ rfl;have c9:w2.cell? ⟨b,bo+m*10+9,none⟩=some (.slice aay y.args.length acy):=hcw 9 _ rfl;have hlw2:b < w2.heap.size:=Nat.lt_of_lt_of_le hbl hbar2.size;clear hst2 hbar2 k0 f0 l0 hcw;have k0:=H02.out.cell;have f0:=H02.out.frozen;have l0:=H02.out.lt;go_wp2_with fail
   refine (CYH.out _ HST2.out HXY2.out).mono ?_
   rintro e w4 ⟨rfl,hst4,hbar4⟩;have HST4:=h_ hst4;have HBR4:=h_ (HBR2.out.trans hbar4);have H04:=h_ (hbar4.blk H02.out hn3);clear hst4 hbar4 k0 f0 l0 c0 c1 c2 c3 c4 c5 c6 c7 c8 c9;go_wp2_with fail
   refine (CG1.out _ HST4.out).mono ?_
   rintro e w5 ⟨rfl,hst5,hbar5⟩;have HST5:=h_ hst5;have HBR5:=h_ (HBR4.out.trans hbar5);have H05:=h_ (hbar5.blk H04.out hn3);clear hst5 hbar5;go_wp2_with fail
   refine (CG2.out _ HST5.out).mono ?_
   rintro e w6 ⟨rfl,hst6,hbar6⟩;have H06:=h_ (hbar6.blk H05.out hn3);have HAT2:=h_ (HAT.out w6 hst6 (HBR5.out.trans hbar6));clear hst6 hbar6 HAT;have HAT:=HAT2;clear HAT2;go_upto_region 8 with fail;have k0:=H06.out.cell;have f0:=H06.out.frozen;have l0:=H06.out.lt
   have hz8:ByteArray.size (su++s1++⟨#[124]⟩++s2)+x.name.size<=1000000:=by have h9:=congrArg List.length HAT.out.text;rw [List.length_append,List.length_append,<-size_list,<-size_list] at h9;omega
   have hz9:ByteArray.size (su++s1++⟨#[124]⟩++s2)<=1000000:=by omega
   have hML:=HAT.out.le;have HI0:=h_ (show (((su++s1++⟨#[124]⟩++s2)++x.name).data.toList++(argsW L (pipW L n) ((x.args.take m).drop 0) a5).1=F.1/\(argsW L (pipW L n) ((x.args.take m).drop 0) a5).2=F.2) from ⟨by rw [List.drop_zero,<-HAT.out.text];simp,by rw [List.drop_zero];exact HAT.out.at_⟩);have HI1:=h_ (show a5+6*(((x.args.take m).drop 0).map (wtX (d - 1))).sum+2<=1000000000 from by rw [List.drop_zero];exact HAT.out.sum);have HI2:=h_ HAT.out.st;have HI3:=h_ HAT.out.bar;clear HAT;go_wp2_with fail
   go_loopw [6,7] (fun x6 x7 wr=>∃ (q:Nat) (tv:ByteArray) (aq:Nat),q<=m/\x7=.int .i64 q/\x6=.string tv/\Hid (tv.data.toList++(argsW L (pipW L n) ((x.args.take m).drop q) aq).1=F.1/\(argsW L (pipW L n) ((x.args.take m).drop q) aq).2=F.2)/\Hid (aq+6*(((x.args.take m).drop q).map (wtX (d - 1))).sum+2<=1000000000)/\Hid (StAt wr gs A c L aq)/\Hid (Bar W1 wr gs)) (fun _ x7 _=>m - (Lib.intOf x7).toNat)
   case atStart=>exact ⟨0,_,a5,Nat.zero_le _,rfl,rfl,HI0,HI1,HI2,HI3⟩
   case round=>
    obtain ⟨q,tv,aq,hq,rfl,rfl,HQ,HQS,HQT,HQB⟩:=hrel;clear k0 f0 l0 HI0 HI1 HI2 HI3
    by_cases hlt:q < m
    ·have hqx:q < x.args.length:=by omega
     obtain ⟨b2,bo2,csq,eaa,hSb2,hcy2,hxy2⟩:=HXA.out q hqx
     cases eaa
     obtain ⟨yq,hy⟩:∃ z,z=x.args[q]:=⟨_,rfl⟩;rw [<-hy] at hxy2
     have hmem:yq ∈ x.args:=by rw [hy];exact List.getElem_mem _
     have hRy2:=HAR.out yq hmem;have hdp2:0 < d:=hR.deep.resolve_left (fun e=>by rw [e] at hmem;cases hmem)
     have hdr:(x.args.take m).drop q=yq::(x.args.take m).drop (q+1):=by rw [drop_cons (by rw [List.length_take];omega),hy,List.getElem_take]
     have hsm:=HQS.out;have hq2:=HQ.out;rw [hdr,argsW] at hq2;rw [hdr] at hsm
     simp only [List.map_cons,List.sum_cons] at hsm
     simp only at hq2
     have hwy:=sum_mem (wtX (d - 1)) hmem;have hwx:=HST.out;have hgl3:=gap_len L aq;have CG0:=tgap gs A c L aq wr.drew (HQT.out.keep (Below.drew (Below.refl _ _))) (by omega);obtain ⟨⟨g,a2⟩,hg⟩:∃ z,z=gapW L aq:=⟨_,rfl⟩;rw [<-hg] at hq2 hgl3 CG0
     simp only at hq2 hgl3 CG0
     have hol:=op_len (pip_len L n) (a:=a2) hRy2 (hdn hdp2);obtain ⟨laq,lcq,maq,mcq,saq,scq,aaq,acq,rfl, -⟩:=hxy2.inv
     have hA9:a2+6*wtX (d - 1) yq < 1000000000:=by omega
     have hB9:40*wtX (d - 1) yq<=1000000:=by omega
     have CO:=fun (w2:World) (hs2:StAt w2 gs A c L a2) (hx2:RepX w2 S [.int .i64 yq.kind,.int .i64 yq.val.kind,.bool yq.val.bool,.int .i64 yq.val.int,.string yq.val.str,.slice laq yq.val.list.length lcq,.slice maq yq.val.map.length mcq,.string yq.name,.slice saq yq.steps.length scq,.slice aaq yq.args.length acq] yq)=>HOO.out (d - 1) yq a2 w2 S _ hRy2 (hdn hdp2) hs2 hx2 hS hA9 hB9
     obtain ⟨⟨o,a3⟩,ho⟩:∃ z,z=opW L (pipW L n) yq a2:=⟨_,rfl⟩;rw [<-ho] at CO hq2 hol
     simp only at CO hq2 hol
     obtain ⟨sg,hsg⟩:∃ z,z=bs g:=⟨_,rfl⟩;obtain ⟨so,hso⟩:∃ z,z=bs o:=⟨_,rfl⟩;rw [<-hsg] at CG0;have CGH:=h_ CG0;have COH:=h_ (fun (w2:World) (h1:StAt w2 gs A c L a2) (h2:RepX w2 S [.int .i64 yq.kind,.int .i64 yq.val.kind,.bool yq.val.bool,.int .i64 yq.val.int,.string yq.val.str,.slice laq yq.val.list.length lcq,.slice maq yq.val.map.length mcq,.string yq.name,.slice saq yq.steps.length scq,.slice aaq yq.args.length acq] yq)=>show Calls Tryz.prog 33 #[.pointer (some ⟨gs,0,none⟩),.agg #[.int .i64 yq.kind,.int .i64 yq.val.kind,.bool yq.val.bool,.int .i64 yq.val.int,.string yq.val.str,.slice laq yq.val.list.length lcq,.slice maq yq.val.map.length mcq,.string yq.name,.slice saq yq.steps.length scq,.slice aaq yq.args.length acq]] w2 (fun e w'=>e=.returned (.string so)/\StAt w' gs A c L a3/\Bar w2 w' gs) from by rw [hso];exact CO w2 h1 h2);have HN:=h_ (show (tv++sg++so).data.toList++(argsW L (pipW L n) ((x.args.take m).drop (q+1)) a3).1=F.1/\(argsW L (pipW L n) ((x.args.take m).drop (q+1)) a3).2=F.2 from ⟨by rw [<-hq2.1,hsg,hso];simp,hq2.2⟩);have HNS:=h_ (show a3+6*(((x.args.take m).drop (q+1)).map (wtX (d - 1))).sum+2<=1000000000 from by omega)
     have hzz:tv.size+sg.size+so.size<=1000000:=by have h9:=congrArg List.length hq2.1;simp only [List.length_append] at h9;have e1:=size_list tv;(have e2:sg.size=g.length:=by rw [hsg,bs_size]);(have e3:so.size=o.length:=by rw [hso,bs_size]);omega
     have hz3:tv.size<=1000000:=by omega
     have hz4:tv.size+sg.size<=1000000:=by omega
     have hnot1:¬ 9223372036854775807 < tv.size+sg.size:=by omega
     have hnot2:¬ 9223372036854775807 < tv.size+sg.size+so.size:=by omega
     have hbl2:b < W1.heap.size:=hcy2.lt
     have hcw2:cellsAt wr b (bo+q*10) [.int .i64 yq.kind,.int .i64 yq.val.kind,.bool yq.val.bool,.int .i64 yq.val.int,.string yq.val.str,.slice laq yq.val.list.length lcq,.slice maq yq.val.map.length mcq,.string yq.name,.slice saq yq.steps.length scq,.slice aaq yq.args.length acq]:=hcy2.keep fun i=>HQB.out.cell hbl2 (hS b hSb2)
     have hlwr:b < wr.heap.size:=Nat.lt_of_lt_of_le hbl2 HQB.out.size;have hneb:b≠gs:=hS b hSb2;have hn3r:n3 < wr.heap.size:=Nat.lt_of_lt_of_le H0.out.lt HQB.out.size;have HX0:=h_ (HQB.out.blk H0.out hn3);have HSS:=h_ (show ∀ wx,Bar wr wx gs->(fun w'=>(∀ i,w'.cell? ⟨n3,i,none⟩=(#[.int .i64 x.kind,.int .i64 x.val.kind,.bool x.val.bool,.int .i64 x.val.int,.string x.val.str,.slice la x.val.list.length lc,.slice ma x.val.map.length mc,.string x.name,.slice sa x.steps.length sc,.slice (some ⟨b,bo,none⟩) x.args.length ac]:Array Value)[i]?)/\w'.cell? ⟨b,bo+q*10,none⟩=some (.int .i64 yq.kind)/\w'.cell? ⟨b,bo+q*10+1,none⟩=some (.int .i64 yq.val.kind)/\w'.cell? ⟨b,bo+q*10+2,none⟩=some (.bool yq.val.bool)/\w'.cell? ⟨b,bo+q*10+3,none⟩=some (.int .i64 yq.val.int)/\w'.cell? ⟨b,bo+q*10+4,none⟩=some (.string yq.val.str)/\w'.cell? ⟨b,bo+q*10+5,none⟩=some (.slice laq yq.val.list.length lcq)/\w'.cell? ⟨b,bo+q*10+6,none⟩=some (.slice maq yq.val.map.length mcq)/\w'.cell? ⟨b,bo+q*10+7,none⟩=some (.string yq.name)/\w'.cell? ⟨b,bo+q*10+8,none⟩=some (.slice saq yq.steps.length scq)/\w'.cell? ⟨b,bo+q*10+9,none⟩=some (.slice aaq yq.args.length acq)) wx from fun wx hx=>⟨(hx.blk HX0.out hn3).cell,(hx.cell (o:=bo+q*10) hlwr hneb).trans (hcw2 0 _ rfl),(hx.cell (o:=bo+q*10+1) hlwr hneb).trans (hcw2 1 _ rfl),(hx.cell (o:=bo+q*10+2) hlwr hneb).trans (hcw2 2 _ rfl),(hx.cell (o:=bo+q*10+3) hlwr hneb).trans (hcw2 3 _ rfl),(hx.cell (o:=bo+q*10+4) hlwr hneb).trans (hcw2 4 _ rfl),(hx.cell (o:=bo+q*10+5) hlwr hneb).trans (hcw2 5 _ rfl),(hx.cell (o:=bo+q*10+6) hlwr hneb).trans (hcw2 6 _ rfl),(hx.cell (o:=bo+q*10+7) hlwr hneb).trans (hcw2 7 _ rfl),(hx.cell (o:=bo+q*10+8) hlwr hneb).trans (hcw2 8 _ rfl),(hx.cell (o:=bo+q*10+9) hlwr hneb).trans (hcw2 9 _ rfl)⟩);have HXY3:=h_ (hxy2.bar HQB.out hS)
     have hg0:(0:Int)<=(q:Int):=by omega
     have hg1:(q:Int) < (x.args.length:Int):=by omega
     have hg2:(q:Int) < ((m:Nat):Int):=by omega
     have hwk2:IntKind.i64.wrap ((q:Int)+1)=(q:Int)+1:=wrap_fit (by omega) (by omega);clear hcy2 hxy2 hy hmem hdr hsm hq2 hwy hwx hg ho hsg hso CO CG0 hcw2 HQ HQS;go_upto_region 12 with fail
     refine wp_region_tail (S:=(fun w'=>(∀ i,w'.cell? ⟨n3,i,none⟩=(#[.int .i64 x.kind,.int .i64 x.val.kind,.bool x.val.bool,.int .i64 x.val.int,.string x.val.str,.slice la x.val.list.length lc,.slice ma x.val.map.length mc,.string x.name,.slice sa x.steps.length sc,.slice (some ⟨b,bo,none⟩) x.args.length ac]:Array Value)[i]?)/\w'.cell? ⟨b,bo+q*10,none⟩=some (.int .i64 yq.kind)/\w'.cell? ⟨b,bo+q*10+1,none⟩=some (.int .i64 yq.val.kind)/\w'.cell? ⟨b,bo+q*10+2,none⟩=some (.bool yq.val.bool)/\w'.cell? ⟨b,bo+q*10+3,none⟩=some (.int .i64 yq.val.int)/\w'.cell? ⟨b,bo+q*10+4,none⟩=some (.string yq.val.str)/\w'.cell? ⟨b,bo+q*10+5,none⟩=some (.slice laq yq.val.list.length lcq)/\w'.cell? ⟨b,bo+q*10+6,none⟩=some (.slice maq yq.val.map.length mcq)/\w'.cell? ⟨b,bo+q*10+7,none⟩=some (.string yq.name)/\w'.cell? ⟨b,bo+q*10+8,none⟩=some (.slice saq yq.steps.length scq)/\w'.cell? ⟨b,bo+q*10+9,none⟩=some (.slice aaq yq.args.length acq))) 12 (by kernel_rfl) (by kernel_rfl) (by exact HSS.out _ (Bar.of (Below.drew (Below.refl _ _)))) (fun hHeld=>?_)
     simp only [List.dropLast]
     refine mv_ 0 ?_
     refine mv_ 1 ?_
     refine mv_ 4 ?_
     refine mv_ 5 ?_
     refine mv_ 6 ?_
     refine mv_ 7 ?_
     refine mv_ 8 ?_
     refine mv_ 9 ?_
     refine mr_ 2 (fun K hK=>?_)
     go_simp
     refine CGH.out.mono ?_
     rintro e w8 ⟨rfl,hst8,hbar8⟩;have HG8:=h_ ((Bar.of (gc:=gs) (Below.drew (Below.refl wr.heap.size wr))).trans hbar8);have HT8:=h_ hst8;clear hst8 hbar8;go_wp2_with fail
     refine hK.out _ _ (by exact HSS.out _ HG8.out) (fun hHeld=>?_)
     clear hK K
     try simp only [Act.put,pA_,pB_,pC_]
     refine mv_ 3 ?_
     refine mr_ 10 (fun K hK=>?_)
     go_simp
     refine (COH.out _ HT8.out (HXY3.out.bar HG8.out hS)).mono ?_
     rintro e w9 ⟨rfl,hst9,hbar9⟩;have HG9:=h_ (HG8.out.trans hbar9);have HT9:=h_ hst9;clear hst9 hbar9;go_wp2_with fail
     refine hK.out _ _ (by exact HSS.out _ HG9.out) (fun hHeld=>?_)
     clear hK K
     try simp only [Act.put,pA_,pB_,pC_]
     refine mv_ 11 ?_
     refine wpAnyH_done (by kernel_rfl) ?_ _
     refine LastQ.step (by conv=>lhs;simp only [List.getElem?_toArray,List.getElem?_cons_succ,List.getElem?_cons_zero]) (fun K hK=>?_)
     go_simp
     refine hK.out _ _ ?_
     clear hK K
     try simp only [Act.put,pA_,pB_,pC_]
     go_wp2_with fail
     go_roundw
     case rel=>exact ⟨q+1,_,a3,by omega,by go_num,rfl,HN,HNS,HT9,h_ (HQB.out.trans HG9.out)⟩
     case measure=>simp [Lib.intOf];omega
    ·obtain rfl:q=m:=by omega
     have HE:=h_ (show F=(tv.data.toList,aq) from by have h9:=HQ.out;rw [List.drop_eq_nil_of_le (by rw [List.length_take];omega)] at h9;have h8:=h9.1;unfold argsW at h8;rw [List.append_nil] at h8;exact (Prod.ext (show tv.data.toList=F.1 from h8) (show aq=F.2 from h9.2)).symm);clear hlt;go_wp2_with fail;go_ret
     exact ⟨by rw [HE.out];rfl,by rw [HE.out];exact HQT.out,HB.out.trans HQB.out⟩
  ·rw [if_neg hp1] at hF
   have gp:((p1:Int)==1)=false:=bf_ (by omega);have HAT0:=h_ (fun (w9:World) (h5:StAt w9 gs A c L p2) (h6:Bar W1 w9 gs)=>HREST.out x.args.length ⟨#[]⟩ p2 w9 (Nat.le_refl _) (by rw [List.take_length,hF];rfl) (by rw [List.take_length,hF];rfl) (by rw [List.take_length];omega) h5 h6);clear hF hl hne hcat hp1 hw HREST;have k0:=H0.out.cell;have f0:=H0.out.frozen;have l0:=H0.out.lt
   go_enter Tryz.func18,Tryz.ntmps18
   go_upto_region 1 with fail;rw [<-E1.out,<-E3.out];go_wp2_with fail
   refine CPH.out.mono ?_
   rintro e w2 ⟨rfl,hst2,hbar2⟩;have H02:=h_ (hbar2.blk H0.out hn3);have HAT:=h_ (HAT0.out w2 hst2 hbar2);clear hst2 hbar2 k0 f0 l0 HAT0;go_upto_region 8 with fail;have k0:=H02.out.cell;have f0:=H02.out.frozen;have l0:=H02.out.lt
   have hz8:ByteArray.size ⟨#[]⟩+x.name.size<=1000000:=by have h9:=congrArg List.length HAT.out.text;rw [List.length_append,List.length_append,<-size_list,<-size_list] at h9;omega
   have hz9:ByteArray.size ⟨#[]⟩<=1000000:=by omega
   have hML:=HAT.out.le;have HI0:=h_ (show ((⟨#[]⟩++x.name).data.toList++(argsW L (pipW L n) ((x.args.take x.args.length).drop 0) p2).1=F.1/\(argsW L (pipW L n) ((x.args.take x.args.length).drop 0) p2).2=F.2) from ⟨by rw [List.drop_zero,<-HAT.out.text];simp,by rw [List.drop_zero];exact HAT.out.at_⟩);have HI1:=h_ (show p2+6*(((x.args.take x.args.length).drop 0).map (wtX (d - 1))).sum+2<=1000000000 from by rw [List.drop_zero];exact HAT.out.sum);have HI2:=h_ HAT.out.st;have HI3:=h_ HAT.out.bar;clear HAT;go_wp2_with fail
   go_loopw [6,7] (fun x6 x7 wr=>∃ (q:Nat) (tv:ByteArray) (aq:Nat),q<=x.args.length/\x7=.int .i64 q/\x6=.string tv/\Hid (tv.data.toList++(argsW L (pipW L n) ((x.args.take x.args.length).drop q) aq).1=F.1/\(argsW L (pipW L n) ((x.args.take x.args.length).drop q) aq).2=F.2)/\Hid (aq+6*(((x.args.take x.args.length).drop q).map (wtX (d - 1))).sum+2<=1000000000)/\Hid (StAt wr gs A c L aq)/\Hid (Bar W1 wr gs)) (fun _ x7 _=>x.args.length - (Lib.intOf x7).toNat)
   case atStart=>exact ⟨0,_,p2,Nat.zero_le _,rfl,rfl,HI0,HI1,HI2,HI3⟩
   case round=>
    obtain ⟨q,tv,aq,hq,rfl,rfl,HQ,HQS,HQT,HQB⟩:=hrel;clear k0 f0 l0 HI0 HI1 HI2 HI3
    by_cases hlt:q < x.args.length
    ·have hqx:q < x.args.length:=by omega
     obtain ⟨b2,bo2,csq,eaa,hSb2,hcy2,hxy2⟩:=HXA.out q hqx
     cases eaa
     obtain ⟨yq,hy⟩:∃ z,z=x.args[q]:=⟨_,rfl⟩;rw [<-hy] at hxy2
     have hmem:yq ∈ x.args:=by rw [hy];exact List.getElem_mem _
     have hRy2:=HAR.out yq hmem;have hdp2:0 < d:=hR.deep.resolve_left (fun e=>by rw [e] at hmem;cases hmem)
     have hdr:(x.args.take x.args.length).drop q=yq::(x.args.take x.args.length).drop (q+1):=by rw [drop_cons (by rw [List.length_take];omega),hy,List.getElem_take]
     have hsm:=HQS.out;have hq2:=HQ.out;rw [hdr,argsW] at hq2;rw [hdr] at hsm
     simp only [List.map_cons,List.sum_cons] at hsm
     simp only at hq2
     have hwy:=sum_mem (wtX (d - 1)) hmem;have hwx:=HST.out;have hgl3:=gap_len L aq;have CG0:=tgap gs A c L aq wr.drew (HQT.out.keep (Below.drew (Below.refl _ _))) (by omega);obtain ⟨⟨g,a2⟩,hg⟩:∃ z,z=gapW L aq:=⟨_,rfl⟩;rw [<-hg] at hq2 hgl3 CG0
     simp only at hq2 hgl3 CG0
     have hol:=op_len (pip_len L n) (a:=a2) hRy2 (hdn hdp2);obtain ⟨laq,lcq,maq,mcq,saq,scq,aaq,acq,rfl, -⟩:=hxy2.inv
     have hA9:a2+6*wtX (d - 1) yq < 1000000000:=by omega
     have hB9:40*wtX (d - 1) yq<=1000000:=by omega
     have CO:=fun (w2:World) (hs2:StAt w2 gs A c L a2) (hx2:RepX w2 S [.int .i64 yq.kind,.int .i64 yq.val.kind,.bool yq.val.bool,.int .i64 yq.val.int,.string yq.val.str,.slice laq yq.val.list.length lcq,.slice maq yq.val.map.length mcq,.string yq.name,.slice saq yq.steps.length scq,.slice aaq yq.args.length acq] yq)=>HOO.out (d - 1) yq a2 w2 S _ hRy2 (hdn hdp2) hs2 hx2 hS hA9 hB9
     obtain ⟨⟨o,a3⟩,ho⟩:∃ z,z=opW L (pipW L n) yq a2:=⟨_,rfl⟩;rw [<-ho] at CO hq2 hol
     simp only at CO hq2 hol
     obtain ⟨sg,hsg⟩:∃ z,z=bs g:=⟨_,rfl⟩;obtain ⟨so,hso⟩:∃ z,z=bs o:=⟨_,rfl⟩;rw [<-hsg] at CG0;have CGH:=h_ CG0;have COH:=h_ (fun (w2:World) (h1:StAt w2 gs A c L a2) (h2:RepX w2 S [.int .i64 yq.kind,.int .i64 yq.val.kind,.bool yq.val.bool,.int .i64 yq.val.int,.string yq.val.str,.slice laq yq.val.list.length lcq,.slice maq yq.val.map.length mcq,.string yq.name,.slice saq yq.steps.length scq,.slice aaq yq.args.length acq] yq)=>show Calls Tryz.prog 33 #[.pointer (some ⟨gs,0,none⟩),.agg #[.int .i64 yq.kind,.int .i64 yq.val.kind,.bool yq.val.bool,.int .i64 yq.val.int,.string yq.val.str,.slice laq yq.val.list.length lcq,.slice maq yq.val.map.length mcq,.string yq.name,.slice saq yq.steps.length scq,.slice aaq yq.args.length acq]] w2 (fun e w'=>e=.returned (.string so)/\StAt w' gs A c L a3/\Bar w2 w' gs) from by rw [hso];exact CO w2 h1 h2);have HN:=h_ (show (tv++sg++so).data.toList++(argsW L (pipW L n) ((x.args.take x.args.length).drop (q+1)) a3).1=F.1/\(argsW L (pipW L n) ((x.args.take x.args.length).drop (q+1)) a3).2=F.2 from ⟨by rw [<-hq2.1,hsg,hso];simp,hq2.2⟩);have HNS:=h_ (show a3+6*(((x.args.take x.args.length).drop (q+1)).map (wtX (d - 1))).sum+2<=1000000000 from by omega)
     have hzz:tv.size+sg.size+so.size<=1000000:=by have h9:=congrArg List.length hq2.1;simp only [List.length_append] at h9;have e1:=size_list tv;(have e2:sg.size=g.length:=by rw [hsg,bs_size]);(have e3:so.size=o.length:=by rw [hso,bs_size]);omega
     have hz3:tv.size<=1000000:=by omega
     have hz4:tv.size+sg.size<=1000000:=by omega
     have hnot1:¬ 9223372036854775807 < tv.size+sg.size:=by omega
     have hnot2:¬ 9223372036854775807 < tv.size+sg.size+so.size:=by omega
     have hbl2:b2 < W1.heap.size:=hcy2.lt
     have hcw2:cellsAt wr b2 (bo2+q*10) [.int .i64 yq.kind,.int .i64 yq.val.kind,.bool yq.val.bool,.int .i64 yq.val.int,.string yq.val.str,.slice laq yq.val.list.length lcq,.slice maq yq.val.map.length mcq,.string yq.name,.slice saq yq.steps.length scq,.slice aaq yq.args.length acq]:=hcy2.keep fun i=>HQB.out.cell hbl2 (hS b2 hSb2)
     have hlwr:b2 < wr.heap.size:=Nat.lt_of_lt_of_le hbl2 HQB.out.size;have hneb:b2≠gs:=hS b2 hSb2;have hn3r:n3 < wr.heap.size:=Nat.lt_of_lt_of_le H0.out.lt HQB.out.size;have HX0:=h_ (HQB.out.blk H0.out hn3);have HSS:=h_ (show ∀ wx,Bar wr wx gs->(fun w'=>(∀ i,w'.cell? ⟨n3,i,none⟩=(#[.int .i64 x.kind,.int .i64 x.val.kind,.bool x.val.bool,.int .i64 x.val.int,.string x.val.str,.slice la x.val.list.length lc,.slice ma x.val.map.length mc,.string x.name,.slice sa x.steps.length sc,.slice (some ⟨b2,bo2,none⟩) x.args.length ac]:Array Value)[i]?)/\w'.cell? ⟨b2,bo2+q*10,none⟩=some (.int .i64 yq.kind)/\w'.cell? ⟨b2,bo2+q*10+1,none⟩=some (.int .i64 yq.val.kind)/\w'.cell? ⟨b2,bo2+q*10+2,none⟩=some (.bool yq.val.bool)/\w'.cell? ⟨b2,bo2+q*10+3,none⟩=some (.int .i64 yq.val.int)/\w'.cell? ⟨b2,bo2+q*10+4,none⟩=some (.string yq.val.str)/\w'.cell? ⟨b2,bo2+q*10+5,none⟩=some (.slice laq yq.val.list.length lcq)/\w'.cell? ⟨b2,bo2+q*10+6,none⟩=some (.slice maq yq.val.map.length mcq)/\w'.cell? ⟨b2,bo2+q*10+7,none⟩=some (.string yq.name)/\w'.cell? ⟨b2,bo2+q*10+8,none⟩=some (.slice saq yq.steps.length scq)/\w'.cell? ⟨b2,bo2+q*10+9,none⟩=some (.slice aaq yq.args.length acq)) wx from fun wx hx=>⟨(hx.blk HX0.out hn3).cell,(hx.cell (o:=bo2+q*10) hlwr hneb).trans (hcw2 0 _ rfl),(hx.cell (o:=bo2+q*10+1) hlwr hneb).trans (hcw2 1 _ rfl),(hx.cell (o:=bo2+q*10+2) hlwr hneb).trans (hcw2 2 _ rfl),(hx.cell (o:=bo2+q*10+3) hlwr hneb).trans (hcw2 3 _ rfl),(hx.cell (o:=bo2+q*10+4) hlwr hneb).trans (hcw2 4 _ rfl),(hx.cell (o:=bo2+q*10+5) hlwr hneb).trans (hcw2 5 _ rfl),(hx.cell (o:=bo2+q*10+6) hlwr hneb).trans (hcw2 6 _ rfl),(hx.cell (o:=bo2+q*10+7) hlwr hneb).trans (hcw2 7 _ rfl),(hx.cell (o:=bo2+q*10+8) hlwr hneb).trans (hcw2 8 _ rfl),(hx.cell (o:=bo2+q*10+9) hlwr hneb).trans (hcw2 9 _ rfl)⟩);have HXY3:=h_ (hxy2.bar HQB.out hS)
     have hg0:(0:Int)<=(q:Int):=by omega
     have hg1:(q:Int) < (x.args.length:Int):=by omega
     have hg2:(q:Int) < ((x.args.length:Nat):Int):=by omega
     have hwk2:IntKind.i64.wrap ((q:Int)+1)=(q:Int)+1:=wrap_fit (by omega) (by omega);clear hcy2 hxy2 hy hmem hdr hsm hq2 hwy hwx hg ho hsg hso CO CG0 hcw2 HQ HQS;go_upto_region 12 with fail
     refine wp_region_tail (S:=(fun w'=>(∀ i,w'.cell? ⟨n3,i,none⟩=(#[.int .i64 x.kind,.int .i64 x.val.kind,.bool x.val.bool,.int .i64 x.val.int,.string x.val.str,.slice la x.val.list.length lc,.slice ma x.val.map.length mc,.string x.name,.slice sa x.steps.length sc,.slice (some ⟨b2,bo2,none⟩) x.args.length ac]:Array Value)[i]?)/\w'.cell? ⟨b2,bo2+q*10,none⟩=some (.int .i64 yq.kind)/\w'.cell? ⟨b2,bo2+q*10+1,none⟩=some (.int .i64 yq.val.kind)/\w'.cell? ⟨b2,bo2+q*10+2,none⟩=some (.bool yq.val.bool)/\w'.cell? ⟨b2,bo2+q*10+3,none⟩=some (.int .i64 yq.val.int)/\w'.cell? ⟨b2,bo2+q*10+4,none⟩=some (.string yq.val.str)/\w'.cell? ⟨b2,bo2+q*10+5,none⟩=some (.slice laq yq.val.list.length lcq)/\w'.cell? ⟨b2,bo2+q*10+6,none⟩=some (.slice maq yq.val.map.length mcq)/\w'.cell? ⟨b2,bo2+q*10+7,none⟩=some (.string yq.name)/\w'.cell? ⟨b2,bo2+q*10+8,none⟩=some (.slice saq yq.steps.length scq)/\w'.cell? ⟨b2,bo2+q*10+9,none⟩=some (.slice aaq yq.args.length acq))) 12 (by kernel_rfl) (by kernel_rfl) (by exact HSS.out _ (Bar.of (Below.drew (Below.refl _ _)))) (fun hHeld=>?_)
     simp only [List.dropLast]
     refine mv_ 0 ?_
     refine mv_ 1 ?_
     refine mv_ 4 ?_
     refine mv_ 5 ?_
     refine mv_ 6 ?_
     refine mv_ 7 ?_
     refine mv_ 8 ?_
     refine mv_ 9 ?_
     refine mr_ 2 (fun K hK=>?_)
     go_simp
     refine CGH.out.mono ?_
     rintro e w8 ⟨rfl,hst8,hbar8⟩;have HG8:=h_ ((Bar.of (gc:=gs) (Below.drew (Below.refl wr.heap.size wr))).trans hbar8);have HT8:=h_ hst8;clear hst8 hbar8;go_wp2_with fail
     refine hK.out _ _ (by exact HSS.out _ HG8.out) (fun hHeld=>?_)
     clear hK K
     try simp only [Act.put,pA_,pB_,pC_]
     refine mv_ 3 ?_
     refine mr_ 10 (fun K hK=>?_)
     go_simp
     refine (COH.out _ HT8.out (HXY3.out.bar HG8.out hS)).mono ?_
     rintro e w9 ⟨rfl,hst9,hbar9⟩;have HG9:=h_ (HG8.out.trans hbar9);have HT9:=h_ hst9;clear hst9 hbar9;go_wp2_with fail
     refine hK.out _ _ (by exact HSS.out _ HG9.out) (fun hHeld=>?_)
     clear hK K
     try simp only [Act.put,pA_,pB_,pC_]
     refine mv_ 11 ?_
     refine wpAnyH_done (by kernel_rfl) ?_ _
     refine LastQ.step (by conv=>lhs;simp only [List.getElem?_toArray,List.getElem?_cons_succ,List.getElem?_cons_zero]) (fun K hK=>?_)
     go_simp
     refine hK.out _ _ ?_
     clear hK K
     try simp only [Act.put,pA_,pB_,pC_]
     go_wp2_with fail
     go_roundw
     case rel=>exact ⟨q+1,_,a3,by omega,by go_num,rfl,HN,HNS,HT9,h_ (HQB.out.trans HG9.out)⟩
     case measure=>simp [Lib.intOf];omega
    ·obtain rfl:q=x.args.length:=by omega
     have HE:=h_ (show F=(tv.data.toList,aq) from by have h9:=HQ.out;rw [List.drop_eq_nil_of_le (by rw [List.length_take];omega)] at h9;have h8:=h9.1;unfold argsW at h8;rw [List.append_nil] at h8;exact (Prod.ext (show tv.data.toList=F.1 from h8) (show aq=F.2 from h9.2)).symm);clear hlt;go_wp2_with fail;go_ret
     exact ⟨by rw [HE.out];rfl,by rw [HE.out];exact HQT.out,HB.out.trans HQB.out⟩
theorem wpipe_all (n:Nat):PiR gs A c L n:=by
 induction n with
 | zero=>intro d x a W S cs hR hn;omega
 | succ n ih=>
  intro d x a W S cs hR hn h hx hS hz hz2
  by_cases hk:x.kind=3
  ·exact pi_call (op_all ih) ih hR hn hk h hx hS hz hz2
  ·have e:pipW L (n+1) x a=opW L (pipW L n) x a:=by rw [pipW,if_pos hk]
   rw [e]
   exact pi_low hR hk h hx hz2
end
theorem own_snocXR {w:World} {B:Nat} {S:Nat->Prop} {A:OA_} {c:Nat} {l:List Ex} {x:Ex} {cs:List Value} (h:OwnE eltXR w B S A c l) (hx:RepX w (fun b=>S b/\Value.ownBlock (.slice A l.length c)≠some b) cs x) (hB:B<=w.heap.size) (hl:(l.length+1)*160<=140737488355328):
  ∃ A' c' w',(Builtin.append_ #[43,43] 43 #[.slice A l.length c,.slice (some ⟨w.heap.size,0,none⟩) 1 1]).run Tryz.prog (w.alloc (.cells cs.toArray 45))=.ok (.slice A' (l++[x]).length c') w'/\OwnE eltXR w' B S A' c' (l++[x])/\(w.alloc (.cells cs.toArray 45)).grownBy w' (Value.ownBlock (.slice A l.length c)):=by
 have ha:Below w.heap.size w (w.alloc (.cells cs.toArray 45)):=Below.new _ _
 exact own_append (E:=eltXR) (l2:=[x]) (es:=cs) (ad:=⟨w.heap.size,0,none⟩) (cc:=1) (ty:=43) (t:=43) rfl (h.keep ha) (by show (l.length+1)*160<=_;omega) (by simp;unfold maxLen;omega) (by simp;omega) (by rw [hx.len];rfl)
  (fun j u hu=>by rw [show (⟨w.heap.size,0,none⟩:Addr).add j=⟨w.heap.size,0+j,none⟩ from by unfold Addr.add;split <;>simp_all,Nat.zero_add,(Blk.new w 45 cs.toArray).cell];simpa using hu)
  (fun i hi=>by
   obtain rfl:i=0:=by simpa using hi
   have h10:=hx.len;rw [show (eltXR).sz=10 from rfl,Nat.zero_mul,List.drop_zero,List.take_of_length_le (by omega)]
   exact hx.keep ha)
def FromPost (B:Nat) (S:Nat->Prop) (x:Ex) (W:World) (e:Ending) (w':World):Prop:=
 ∃ cs,e=.returned (.agg (List.toArray cs))/\RepX w' (fun b=>(S b/\b < B)\/W.heap.size<=b) cs x/\Below W.heap.size W w'
theorem take_snocX {l:List Ex} {q:Nat} (h:q < l.length):l.take (q+1)=l.take q++[l[q]]:=by rw [List.take_succ_eq_append_getElem h]
theorem tfrom {w:World} {S:Nat->Prop} {cs:List Value} {x:Ex} (h:RepX w S cs x):∀ W,Below w.heap.size w W->Calls Tryz.prog 22 #[.agg (List.toArray cs)] W (FromPost w.heap.size S x W):=by
 induction h with
 | mk k v nm st ar la lc ma mc sa sc aa ac C hk hv hn hs hsr har ha hr ih=>
 intro W hW;have hwW:=hW.size;have HV:=h_ (show RepT W (fun b=>S b/\b < w.heap.size) (.agg #[.int .i64 v.kind,.bool v.bool,.int .i64 v.int,.string v.str,.slice la v.list.length lc,.slice ma v.map.length mc]) v from hv.mono (fun b hb hlt=>⟨hb,hlt⟩) (fun b o hb hlt=>hW.cell hlt));have HS:=h_ (show RepS W (fun b=>S b/\b < w.heap.size) sa st from hs.mono (fun b hb hlt=>⟨hb,hlt⟩) (fun b o hb hlt=>hW.cell hlt))
 have HA:=h_ (fun i (hi:i < ar.length)=>show ∃ b o,aa=some ⟨b,o,none⟩/\(S b/\b < w.heap.size)/\cellsAt W b (o+i*10) (C i) from by
  obtain ⟨b,o,e,hb,hc⟩:=ha i hi
  have hlt:b < w.heap.size:=by have hl:=(hr i hi).len;generalize C i=cs at hc hl;cases cs with | nil=>simp at hl | cons c cs=>exact hc.lt
  exact ⟨b,o,e,⟨hb,hlt⟩,hc.keep fun i=>hW.cell hlt⟩)
 have HR:=h_ (fun i (hi:i < ar.length)=>(hr i hi).inv);have HIH:=h_ ih;have hn1:=har.2.2;have HK:=h_ hk;have HN:=h_ hn;have HSR:=h_ hsr;have HAR:=h_ har;have HW:=h_ hW;clear hk hv hn hs hsr har ha hr ih hW;have hb1:=Below.new W (.cells #[.int .i64 k,.int .i64 v.kind,.bool v.bool,.int .i64 v.int,.string v.str,.slice la v.list.length lc,.slice ma v.map.length mc,.string nm,.slice sa st.length sc,.slice aa ar.length ac] 50);have h1:=Blk.new W 50 #[.int .i64 k,.int .i64 v.kind,.bool v.bool,.int .i64 v.int,.string v.str,.slice la v.list.length lc,.slice ma v.map.length mc,.string nm,.slice sa st.length sc,.slice aa ar.length ac];obtain ⟨W1,e1⟩:∃ z,z=W.alloc (.cells #[.int .i64 k,.int .i64 v.kind,.bool v.bool,.int .i64 v.int,.string v.str,.slice la v.list.length lc,.slice ma v.map.length mc,.string nm,.slice sa st.length sc,.slice aa ar.length ac] 50):=⟨_,rfl⟩
 have z1:W1.heap.size=W.heap.size+1:=by rw [e1];simp
 rw [<-e1] at hb1 h1;have hb2:=Below.new W1 (.cells zX 45);have h2:=Blk.new W1 45 zX;obtain ⟨W2,e2⟩:∃ z,z=W1.alloc (.cells zX 45):=⟨_,rfl⟩
 have z2:W2.heap.size=W1.heap.size+1:=by rw [e2];simp
 rw [<-e2] at hb2 h2;have hb3:=Below.new W2 (.cells #[.int .i64 k,.int .i64 v.kind,.bool v.bool,.int .i64 v.int,.string v.str,.slice la v.list.length lc,.slice ma v.map.length mc,.string nm,.slice sa st.length sc,.slice none 0 0] 45);have h3:=Blk.new W2 45 #[.int .i64 k,.int .i64 v.kind,.bool v.bool,.int .i64 v.int,.string v.str,.slice la v.list.length lc,.slice ma v.map.length mc,.string nm,.slice sa st.length sc,.slice none 0 0];obtain ⟨W3,e3⟩:∃ z,z=W2.alloc (.cells #[.int .i64 k,.int .i64 v.kind,.bool v.bool,.int .i64 v.int,.string v.str,.slice la v.list.length lc,.slice ma v.map.length mc,.string nm,.slice sa st.length sc,.slice none 0 0] 45):=⟨_,rfl⟩
 have z3:W3.heap.size=W2.heap.size+1:=by rw [e3];simp
 rw [<-e3] at hb3 h3;obtain ⟨n1,en1⟩:∃ z,z=W.heap.size:=⟨_,rfl⟩;obtain ⟨n2,en2⟩:∃ z,z=W1.heap.size:=⟨_,rfl⟩;obtain ⟨n3,en3⟩:∃ z,z=W2.heap.size:=⟨_,rfl⟩;have HB3:=h_ (Below.next (Below.next hb1 hb2) hb3);have H12:=h_ (h1.keep hb2);have H1:=h_ ((h1.keep hb2).keep hb3);have H2:=h_ (h2.keep hb3);have H3:=h_ h3;rw [<-en1] at H1 H12;rw [<-en2] at H2;rw [<-en3] at H3
 have hn12:n1+1=n2:=by omega
 have hn23:n2+1=n3:=by omega
 have hn33:W3.heap.size=n3+1:=by omega
 have E1:=h_ e1;have E2:=h_ e2;have E3:=h_ e3;have N1:=h_ en1;have N2:=h_ en2;have N3:=h_ en3
 have hwn:w.heap.size<=n1:=by omega
 have HN12:=h_ hn12
 have hn13:n1 < n2:=by omega
 have hn23':n2 < n3:=by omega
 have hn13b:n2≠n3:=by omega
 have hW3:n1 < W3.heap.size/\n2 < W3.heap.size:=by omega
 have HN23:=h_ hn23;have HN33:=h_ hn33;clear hn12 hn23 hn33;clear h1 h2 h3 hb1 hb2 hb3 e1 e2 e3 z1 z2 z3 en1 en2 en3;unfold zX at *
 go_enter Tryz.func22,Tryz.ntmps22
 go_upto_region 1 with fail;rw [<-E1.out,<-E2.out,<-N1.out,HN12.out];have k1:=H12.out.cell;have f1:=H12.out.frozen;have l1:=H12.out.lt;go_upto_region 2 with fail;rw [<-E3.out,<-N3.out];clear k1 f1 l1 H12 E1 E2 E3 HN12 HN23;have k1:=H1.out.cell;have f1:=H1.out.frozen;have l1:=H1.out.lt;go_wp2_with fail
 go_loopw [18] (fun x18 wr=>∃ (q:Nat) (L:List Ex) (A:OA_) (c:Nat),q<=ar.length/\x18=.int .i64 q/\Hid (L=ar.take q)/\Hid (Below W.heap.size W wr)/\Hid (Blk wr n2 45 #[.int .i64 0,.int .i64 0,.bool false,.int .i64 0,.string ⟨#[]⟩,.slice none 0 0,.slice none 0 0,.string ⟨#[]⟩,.slice none 0 0,.slice none 0 0])/\Hid (Blk wr n3 45 #[.int .i64 k,.int .i64 v.kind,.bool v.bool,.int .i64 v.int,.string v.str,.slice la v.list.length lc,.slice ma v.map.length mc,.string nm,.slice sa st.length sc,.slice A L.length c])/\Hid (OwnE eltXR wr (n3+1) (fun b=>(S b/\b < w.heap.size)\/n3+1<=b) A c L)/\Hid (n3 < wr.heap.size)) (fun x _=>ar.length - (Lib.intOf x).toNat)
 case atStart=>exact ⟨0,[],none,0,Nat.zero_le _,rfl,h_ (by rw [List.take_zero]),HB3,H2,H3,h_ OwnE.nil,h_ H3.out.lt⟩
 case round=>
  obtain ⟨q,L,A,c,hq,rfl,HL,HB,HX2,HX3,HO,HZ⟩:=hrel;clear k1 f1 l1
  by_cases hlt:q < ar.length
  ·obtain ⟨b,bo,rfl,hSb,hcell⟩:=HA.out q hlt
   obtain ⟨lay,lcy,may,mcy,say,scy,aay,acy,hC, -⟩:=HR.out q hlt;have hih:=HIH.out q hlt;have hst:=take_snocX hlt
   have hLl:L.length=q:=by rw [HL.out,List.length_take];omega
   rw [<-HL.out] at hst;rw [hC] at hcell hih;obtain ⟨y,hy⟩:∃ z,z=ar[q]:=⟨_,rfl⟩;rw [<-hy] at hcell hih hst
   have hb2:b < W.heap.size:=by omega
   have hcw:cellsAt wr b (bo+q*10) [.int .i64 y.kind,.int .i64 y.val.kind,.bool y.val.bool,.int .i64 y.val.int,.string y.val.str,.slice lay y.val.list.length lcy,.slice may y.val.map.length mcy,.string y.name,.slice say y.steps.length scy,.slice aay y.args.length acy]:=hcell.keep fun i=>HB.out.cell (p:=⟨b,i,none⟩) hb2
   have hlw:b < wr.heap.size:=by have:=HB.out.size;omega
   have c0:wr.cell? ⟨b,bo+q*10,none⟩=some (.int .i64 y.kind):=hcw 0 _ rfl;have c1:wr.cell? ⟨b,bo+q*10+1,none⟩=some (.int .i64 y.val.kind):=hcw 1 _ rfl;have c2:wr.cell? ⟨b,bo+q*10+2,none⟩=some (.bool y.val.bool):=hcw 2 _ rfl;have c3:wr.cell? ⟨b,bo+q*10+3,none⟩=some (.int .i64 y.val.int):=hcw 3 _ rfl;have c4:wr.cell? ⟨b,bo+q*10+4,none⟩=some (.string y.val.str):=hcw 4 _ rfl;have c5:wr.cell? ⟨b,bo+q*10+5,none⟩=some (.slice lay y.val.list.length lcy):=hcw 5 _ rfl;have c6:wr.cell? ⟨b,bo+q*10+6,none⟩=some (.slice may y.val.map.length mcy):=hcw 6 _ rfl;have c7:wr.cell? ⟨b,bo+q*10+7,none⟩=some (.string y.name):=hcw 7 _ rfl;have c8:wr.cell? ⟨b,bo+q*10+8,none⟩=some (.slice say y.steps.length scy):=hcw 8 _ rfl;have c9:wr.cell? ⟨b,bo+q*10+9,none⟩=some (.slice aay y.args.length acy):=hcw 9 _ rfl
   have hg0:(0:Int)<=(q:Int):=by omega
   have hg1:(q:Int) < (ar.length:Int):=by omega
   have hwk:IntKind.i64.wrap ((q:Int)+1)=(q:Int)+1:=wrap_fit (by omega) (by omega);have HIHY:=h_ hih;have HST:=h_ hst;have HLL:=h_ hLl;have HSB:=h_ hSb;clear hcell hcw hC hih hst hLl hy hSb;have k3:=HX3.out.cell;have f3:=HX3.out.frozen;have l3:=HX3.out.lt;go_upto_region 5 with fail;have hba:=Below.new wr (.cells #[.int .i64 y.kind,.int .i64 y.val.kind,.bool y.val.bool,.int .i64 y.val.int,.string y.val.str,.slice lay y.val.list.length lcy,.slice may y.val.map.length mcy,.string y.name,.slice say y.steps.length scy,.slice aay y.args.length acy] 50);have HBA:=h_ (HB.out.alloc HB.out.size (.cells #[.int .i64 y.kind,.int .i64 y.val.kind,.bool y.val.bool,.int .i64 y.val.int,.string y.val.str,.slice lay y.val.list.length lcy,.slice may y.val.map.length mcy,.string y.name,.slice say y.steps.length scy,.slice aay y.args.length acy] 50));have HX2A:=h_ (HX2.out.keep hba);have HX3A:=h_ (HX3.out.keep hba);have HOA:=h_ (HO.out.keep hba);have HX5:=h_ (Blk.new wr 50 #[.int .i64 y.kind,.int .i64 y.val.kind,.bool y.val.bool,.int .i64 y.val.int,.string y.val.str,.slice lay y.val.list.length lcy,.slice may y.val.map.length mcy,.string y.name,.slice say y.steps.length scy,.slice aay y.args.length acy]);have HROW:=h_ HO.out.own
   have hsa:wr.heap.size < (wr.alloc (.cells #[.int .i64 y.kind,.int .i64 y.val.kind,.bool y.val.bool,.int .i64 y.val.int,.string y.val.str,.slice lay y.val.list.length lcy,.slice may y.val.map.length mcy,.string y.name,.slice say y.steps.length scy,.slice aay y.args.length acy] 50)).heap.size:=by simp
   obtain ⟨WA,eA⟩:∃ z,z=wr.alloc (.cells #[.int .i64 y.kind,.int .i64 y.val.kind,.bool y.val.bool,.int .i64 y.val.int,.string y.val.str,.slice lay y.val.list.length lcy,.slice may y.val.map.length mcy,.string y.name,.slice say y.steps.length scy,.slice aay y.args.length acy] 50):=⟨_,rfl⟩;obtain ⟨n5,e5⟩:∃ z,z=wr.heap.size:=⟨_,rfl⟩;rw [<-eA] at HBA HX2A HX3A HOA HX5 hsa;rw [<-e5] at HX5 HROW hsa;rw [<-eA,<-e5]
   have hn35:n3 < n5:=by have:=HZ.out;omega
   have hn15:W.heap.size<=n5:=by have:=HB.out.size;omega
   have hWn3:W.heap.size<=n3:=by have h1:=N1.out;omega
   clear hba eA e5 k3 f3 l3 c0 c1 c2 c3 c4 c5 c6 c7 c8 c9;have HWA:=h_ (show Below w.heap.size w WA from ⟨HBA.out.os.trans HW.out.os,HBA.out.tape.trans HW.out.tape,HBA.out.output.trans HW.out.output,Nat.le_trans HW.out.size HBA.out.size,fun b hb=>(HBA.out.block b (by omega)).trans (HW.out.block b hb)⟩);have HSS:=h_ (show ∀ wx,Below WA.heap.size WA wx->(fun w'=>(∀ i,w'.cell? ⟨n3,i,none⟩=(#[.int .i64 k,.int .i64 v.kind,.bool v.bool,.int .i64 v.int,.string v.str,.slice la v.list.length lc,.slice ma v.map.length mc,.string nm,.slice sa st.length sc,.slice A L.length c]:Array Value)[i]?)/\(∀ i,w'.cell? ⟨n5,i,none⟩=(#[.int .i64 y.kind,.int .i64 y.val.kind,.bool y.val.bool,.int .i64 y.val.int,.string y.val.str,.slice lay y.val.list.length lcy,.slice may y.val.map.length mcy,.string y.name,.slice say y.steps.length scy,.slice aay y.args.length acy]:Array Value)[i]?)) wx from fun wx hx=>⟨(HX3A.out.keep hx).cell,(HX5.out.keep hx).cell⟩);have k3:=HX3A.out.cell;have f3:=HX3A.out.frozen;have l3:=HX3A.out.lt;have k5:=HX5.out.cell;have f5:=HX5.out.frozen;have l5:=HX5.out.lt
   refine wp_region_tail (S:=(fun w'=>(∀ i,w'.cell? ⟨n3,i,none⟩=(#[.int .i64 k,.int .i64 v.kind,.bool v.bool,.int .i64 v.int,.string v.str,.slice la v.list.length lc,.slice ma v.map.length mc,.string nm,.slice sa st.length sc,.slice A L.length c]:Array Value)[i]?)/\(∀ i,w'.cell? ⟨n5,i,none⟩=(#[.int .i64 y.kind,.int .i64 y.val.kind,.bool y.val.bool,.int .i64 y.val.int,.string y.val.str,.slice lay y.val.list.length lcy,.slice may y.val.map.length mcy,.string y.name,.slice say y.steps.length scy,.slice aay y.args.length acy]:Array Value)[i]?))) 7 (by kernel_rfl) (by kernel_rfl) (by exact HSS.out _ (Below.refl _ _).drew) (fun hHeld=>?_)
   simp only [List.dropLast]
   refine mv_ 0 ?_
   refine mv_ 1 ?_
   refine mv_ 2 ?_
   refine mr_ 3 (fun K hK=>?_)
   go_simp
   refine (HIHY.out _ HWA.out.drew).mono ?_
   rintro e w8 ⟨cs8,rfl,hr8,hb8⟩;obtain ⟨la8,lc8,ma8,mc8,sa8,sc8,aa8,ac8,rfl, -⟩:=hr8.inv;have HW8:=h_ (Below.next ((Below.refl WA.heap.size WA).drew) hb8);have HO8:=h_ (HOA.out.keep HW8.out);have HX38:=h_ (HX3A.out.keep HW8.out);have HX58:=h_ (HX5.out.keep HW8.out);have HX28:=h_ (HX2A.out.keep HW8.out);have hw8:=HW8.out.size;obtain ⟨A9,c9,w9,hrun,ho9,hg9⟩:=own_snocXR HO8.out (x:=y) (cs:=[.int .i64 y.kind,.int .i64 y.val.kind,.bool y.val.bool,.int .i64 y.val.int,.string y.val.str,.slice la8 y.val.list.length lc8,.slice ma8 y.val.map.length mc8,.string y.name,.slice sa8 y.steps.length sc8,.slice aa8 y.args.length ac8]) (hr8.weak (fun b hb hlt=>⟨hb.elim .inl (fun h=> .inr (by have h9:WA.drew.heap.size=WA.heap.size:=rfl;omega)),fun e=>by have h1:=HROW.out b e;rcases hb with h | h;omega;have h9:WA.drew.heap.size=WA.heap.size:=rfl;omega⟩)) (by omega) (by have:=HLL.out;omega);obtain ⟨L2,hL2⟩:∃ z,z=L++[y]:=⟨_,rfl⟩;rw [<-hL2] at hrun ho9;have hrow3:∀ b,Value.ownBlock (.slice A L.length c)=some b->n3+1<=b/\b < n5:=HROW.out;have HX39:=h_ (HX38.out.grow hg9 (fun e=>by have:=hrow3 _ e;omega));have HX59:=h_ (HX58.out.grow hg9 (fun e=>by have:=hrow3 _ e;omega));have HX29:=h_ (HX28.out.grow hg9 (fun e=>by have:=hrow3 _ e;omega));have HB9:=h_ (Bar.grow (gc:=n3) ((Bar.of HBA.out).trans (Bar.of HW8.out)) hg9 (fun b e=>by have:=hrow3 _ e;omega));have HRUN:=h_ hrun;have HO9:=h_ ho9;have HL2:=h_ (show L2=ar.take (q+1) from by rw [hL2,HST.out]);clear hr8 hb8 hrun ho9 hg9 hrow3 hL2 k3 f3 l3 k5 f5 l5;have k3:=HX39.out.cell;have f3:=HX39.out.frozen;have l3:=HX39.out.lt;go_wp2_with fail
   refine hK.out _ _ (by exact HSS.out _ HW8.out) (fun hHeld=>?_)
   clear hK K
   try simp only [Act.put,pA_,pB_,pC_]
   refine mr_ 4 (fun K hK=>?_)
   go_simp
   refine hK.out _ _ (by exact HSS.out _ (HW8.out.alloc HW8.out.size _)) (fun hHeld=>?_)
   clear hK K
   try simp only [Act.put,pA_,pB_,pC_]
   refine mr_ 5 (fun K hK=>?_)
   refine step_append_run rfl (.tmp 23) (.tmp 26) 43 rfl HRUN.out rfl rfl ?_
   refine hK.out _ _ (by exact ⟨HX39.out.cell,HX59.out.cell⟩) (fun hHeld=>?_)
   clear hK K
   try simp only [Act.put,pA_,pB_,pC_]
   refine mv_ 6 ?_
   refine wpAnyH_done (by kernel_rfl) ?_ _
   refine LastQ.step (by conv=>lhs;simp only [List.getElem?_toArray,List.getElem?_cons_succ,List.getElem?_cons_zero]) (fun K hK=>?_)
   go_simp
   refine hK.out _ _ ?_
   clear hK K
   try simp only [Act.put,pA_,pB_,pC_]
   go_wp2_with fail
   go_roundw
   case rel=>exact ⟨q+1,L2,A9,c9,by omega,by go_num,HL2,h_ ((HB9.out.trans (Bar.set n3 9 _)).under hWn3),h_ (HX29.out.far (p:=⟨n3,9,none⟩) hn13b _),h_ (HX39.out.set_ 9 _),h_ (HO9.out.far _ (fun g hg=>by have:=(HO9.out.own g hg).1;show g≠n3;omega) (by show ¬ ((S n3/\n3 < w.heap.size)\/n3+1<=n3);omega)),h_ (by simp only [World.setCell];first | exact HX39.out.lt | (simp;exact HX39.out.lt))⟩
   case measure=>simp [Lib.intOf];omega
  ·have hge:¬ (q:Int) < (ar.length:Int):=by omega
   obtain rfl:q=ar.length:=by omega
   have HLE:=h_ (show L=ar from by rw [HL.out,List.take_length]);have k3:=HX3.out.cell;have f3:=HX3.out.frozen;have l3:=HX3.out.lt;have k2:=HX2.out.cell;have f2:=HX2.out.frozen;have l2:=HX2.out.lt;go_wp2_with fail
   refine ret_cell (p:=2) (g:=n2) rfl rfl (blk_set10 (w:=wr) HX2.out) Tryz.underlying45 (by kernel_rfl) rfl ?_
   have hbar:=bar_set10 wr n2 (.int .i64 k) (.int .i64 v.kind) (.bool v.bool) (.int .i64 v.int) (.string v.str) (.slice la v.list.length lc) (.slice ma v.map.length mc) (.string nm) (.slice sa st.length sc) (.slice A L.length c);have hn1:=N1.out
   refine ⟨[.int .i64 k,.int .i64 v.kind,.bool v.bool,.int .i64 v.int,.string v.str,.slice la v.list.length lc,.slice ma v.map.length mc,.string nm,.slice sa st.length sc,.slice A L.length c],rfl,?_,((Bar.of (gc:=n2) HB.out).trans hbar).under (by omega)⟩
   have hp:PartsX wr (fun b=>((S b/\b < w.heap.size)\/W.heap.size<=b)/\b≠n2) la lc ma mc sa sc A c (.mk k v nm st L):=⟨HK.out,HV.out.mono (fun b hb hlt=>⟨.inl hb,by have:=hb.2;omega⟩) (fun b o hb hlt=>HB.out.cell hlt),HN.out,HS.out.mono (fun b hb hlt=>⟨.inl hb,by have:=hb.2;omega⟩) (fun b o hb hlt=>HB.out.cell hlt),HSR.out,⟨HO.out.len.1,HO.out.len.2,by rw [HLE.out];exact HAR.out.2.2⟩,RepE.weak (E:=eltXR) HO.out.rep (fun b hb _=>⟨hb.elim (fun h=>h.elim .inl (fun h=> .inr (by omega))) (fun h=> .inr (by omega)),by rcases hb with (h | h) | h <;>omega⟩)⟩;have hr:=(RepX.of hp).mono (w':=set10 wr n2 (.int .i64 k) (.int .i64 v.kind) (.bool v.bool) (.int .i64 v.int) (.string v.str) (.slice la v.list.length lc) (.slice ma v.map.length mc) (.string nm) (.slice sa st.length sc) (.slice A L.length c)) (fun b hb _=>hb.1) (fun b o hb hlt=>hbar.cell hlt hb.2);rw [HLE.out] at hr ⊢
   exact hr
end Go.Proofs.YtnblmhfgmehnnaaGreatDoor
namespace Go.Proofs.YtnblmhfgmehnnaaGreatDoor
open Go.RowKit
attribute [local go_sem ↓] Go.wp_at_zero Go.wp_at_succ
def SamePost (w:World) (p:Prop) (e:Ending) (w':World):Prop:=∃ r:Bool,e=.returned (.bool r)/\(r=true ↔ p)/\Below w.heap.size w w'
def SameOk (a:T):Prop:=∀ (b:T) (w:World) (S S':Nat->Prop) (v v':Value),RepT w S v a->RepT w S' v' b->Calls Tryz.prog 36 #[v,v'] w (SamePost w (a=b))
theorem T.eq_iff (a b:T):a=b ↔ a.kind=b.kind/\a.bool=b.bool/\a.int=b.int/\a.str=b.str/\a.list=b.list/\a.map=b.map:=by
 cases a;cases b;simp [T.kind,T.bool,T.int,T.str,T.list,T.map]
theorem SamePost.no {w w':World} {p:Prop} (hp:¬ p) (hb:Below w.heap.size w w'):SamePost w p (.returned (.bool false)) w':=⟨false,rfl,by simp [hp],hb⟩
theorem SamePost.yes {w w':World} {p:Prop} (hp:p) (hb:Below w.heap.size w w'):SamePost w p (.returned (.bool true)) w':=⟨true,rfl,by simp [hp],hb⟩
theorem rsame (a:T):SameOk a:=by
 have hnot:∀ (x:Bool) (w:World),(Op.unary .not (.bool x)).run Tryz.prog w=.ok (.bool (!x)) w:=fun _ _=>rfl
 induction a using T.ind' with
 | h a ihl ihm=>
 intro b w S S' v v' h h';obtain ⟨la,lc,ma,mc,rfl,hp⟩:=h.inv;obtain ⟨-, -, -,hl,hm, -, -, -, -,hL,hM⟩:=hp;obtain ⟨lb,ld,mb,md,rfl,hp'⟩:=h'.inv;obtain ⟨-, -, -,hl',hm', -, -, -, -,hL',hM'⟩:=hp';have HEQ:=h_ (T.eq_iff a b);clear h h'
 generalize a.kind=k1 at*
 generalize a.bool=b1 at*
 generalize a.int=n1 at*
 generalize a.str=s1 at*
 generalize a.list=l1 at*
 generalize a.map=m1 at*
 generalize b.kind=k2 at*
 generalize b.bool=b2 at*
 generalize b.int=n2 at*
 generalize b.str=s2 at*
 generalize b.list=l2 at*
 generalize b.map=m2 at*
 have hbx:Below w.heap.size w ((w.alloc (.cells #[.int .i64 k1,.bool b1,.int .i64 n1,.string s1,.slice la l1.length lc,.slice ma m1.length mc] 41)).alloc (.cells #[.int .i64 k2,.bool b2,.int .i64 n2,.string s2,.slice lb l2.length ld,.slice mb m2.length md] 41)):=(Below.new _ _).alloc (by simp) _
 by_cases hd:k1≠k2
 ·have HN:Hid (¬ (a=b)):=fun e=>by have:=HEQ.out.1 e;exact hd this.1
  clear HEQ;have g:(k1 !=k2)=true:=bne_iff_ne.2 hd;clear hd
  go_enter Tryz.func36,Tryz.ntmps36
  go_wp2_with fail;go_ret
  exact SamePost.no HN.out hbx
 have hd:=Classical.not_not.1 hd;subst hd
 by_cases hd:b1≠b2
 ·have HN:Hid (¬ (a=b)):=fun e=>by have:=HEQ.out.1 e;exact hd this.2.1
  clear HEQ;have g:(b1 !=b2)=true:=bne_iff_ne.2 hd;have g2:(b1==b2)=false:=bf_ hd;clear hd
  go_enter Tryz.func36,Tryz.ntmps36
  go_wp2_with fail;go_ret
  exact SamePost.no HN.out hbx
 have hd:=Classical.not_not.1 hd;subst hd
 by_cases hd:n1≠n2
 ·have HN:Hid (¬ (a=b)):=fun e=>by have:=HEQ.out.1 e;exact hd this.2.2.1
  clear HEQ;have g:(n1 !=n2)=true:=bne_iff_ne.2 hd;clear hd
  go_enter Tryz.func36,Tryz.ntmps36
  go_wp2_with fail;go_ret
  exact SamePost.no HN.out hbx
 have hd:=Classical.not_not.1 hd;subst hd
 by_cases hd:s1≠s2
 ·have HN:Hid (¬ (a=b)):=fun e=>by have:=HEQ.out.1 e;exact hd this.2.2.2.1
  clear HEQ
  have g:(s1.toList==s2.toList)=false:=by rw [keq_iff];simpa using hd
  clear hd
  go_enter Tryz.func36,Tryz.ntmps36
  go_wp2_with fail;go_ret
  exact SamePost.no HN.out hbx
 have hd:=Classical.not_not.1 hd;subst hd
 by_cases hd:l1.length≠l2.length
 ·have HN:Hid (¬ (a=b)):=fun e=>by have:=HEQ.out.1 e;exact hd (by rw [this.2.2.2.2.1])
  clear HEQ
  have g:((l1.length:Int) !=(l2.length:Int))=true:=by rw [bne_iff_ne];omega
  have g2:(l1.length !=l2.length)=true:=bne_iff_ne.2 hd;clear hd
  go_enter Tryz.func36,Tryz.ntmps36
  go_wp2_with fail;go_ret
  exact SamePost.no HN.out hbx
 have hll:=Classical.not_not.1 hd;have HLL:=h_ hll
 have g1:((l1.length:Int) !=(l2.length:Int))=false:=by simp [hll]
 have g1':(l1.length !=l2.length)=false:=by simp [hll]
 clear hd hll
 by_cases hd:m1.length≠m2.length
 ·have HN:Hid (¬ (a=b)):=fun e=>by have:=HEQ.out.1 e;exact hd (by rw [this.2.2.2.2.2])
  clear HEQ
  have g:((m1.length:Int) !=(m2.length:Int))=true:=by rw [bne_iff_ne];omega
  have g2:(m1.length !=m2.length)=true:=bne_iff_ne.2 hd;clear hd
  go_enter Tryz.func36,Tryz.ntmps36
  go_wp2_with fail;go_ret
  exact SamePost.no HN.out hbx
 have hmm:=Classical.not_not.1 hd;have HMM:=h_ hmm
 have g2:((m1.length:Int) !=(m2.length:Int))=false:=by simp [hmm]
 have g2':(m1.length !=m2.length)=false:=by simp [hmm]
 clear hd hmm
 go_enter Tryz.func36,Tryz.ntmps36
 go_wp2_with fail
 go_loopw [5] (fun i wr=>∃ q:Nat,q<=l1.length/\i=.int .i64 q/\Hid (∀ j (hj:j < l1.length) (hj':j < l2.length),j < q->l1[j]=l2[j])/\Below w.heap.size w wr/\Blk wr w.heap.size 41 #[.int .i64 k1,.bool b1,.int .i64 n1,.string s1,.slice la l1.length lc,.slice ma m1.length mc]/\Blk wr (w.heap.size+1) 41 #[.int .i64 k1,.bool b1,.int .i64 n1,.string s1,.slice lb l2.length ld,.slice mb m2.length md]) (fun i _=>l1.length - (intOf i).toNat)
 case atStart=>exact ⟨0,Nat.zero_le _,rfl,fun j _ _ h=>by omega,hbx,(Blk.new _ _ _).alloc _,Blk.new_at _ _ _ (by simp)⟩
 case round=>
  clear g1 g1' g2 g2' hbx;obtain ⟨j,hj,rfl,hall,hbw,hx1,hx2⟩:=hrel;have b4:wr.cell? ⟨w.heap.size,4,none⟩=some (.slice la l1.length lc):=hx1.cell 4;have b5:wr.cell? ⟨w.heap.size,5,none⟩=some (.slice ma m1.length mc):=hx1.cell 5;have d4:wr.cell? ⟨w.heap.size+1,4,none⟩=some (.slice lb l2.length ld):=hx2.cell 4;have d5:wr.cell? ⟨w.heap.size+1,5,none⟩=some (.slice mb m2.length md):=hx2.cell 5
  by_cases hlt:j < l1.length
  ·have hlt2:j < l2.length:=by have:=HLL.out;omega
   obtain ⟨bl,ol,la',lc',ma',mc',rfl, -,hbl0,⟨c0,c1,c2,c3,c4,c5⟩,hr⟩:=(hL.keep hbw).at_ hlt;obtain ⟨bk,ok,lb',ld',mb',md',rfl, -,hbk0,⟨e0,e1,e2,e3,e4,e5⟩,hr'⟩:=(hL'.keep hbw).at_ hlt2;have HIH:=h_ (fun w v v' h h'=>ihl _ (List.getElem_mem hlt) (l2[j]'hlt2) w S S' v v' h h')
   have HSTEP:Hid (l1[j]=l2[j]->∀ i (hi:i < l1.length) (hi':i < l2.length),i < j+1->l1[i]=l2[i]):=fun he i hi hi' h=>by
    rcases Nat.lt_or_ge i j with h2 | h2
    ·exact hall.out i hi hi' h2
    ·obtain rfl:i=j:=by omega
     exact he
   have HNO:Hid (¬ l1[j]=l2[j]->¬ a=b):=fun he e=>he (by
    have e2:=(HEQ.out.1 e).2.2.2.2.1
    subst e2;rfl)
   generalize l1[j]=x at*
   generalize l2[j]=y at*
   have HR:=h_ hr;have HR':=h_ hr'
   have hi1:(0:Int)<=(j:Int):=by omega
   have hi2:(j:Int) < (l1.length:Int):=by omega
   have hi3:(j:Int) < (l2.length:Int):=by omega
   clear hr hr';go_wp2_with fail
   go_region_held3 (fun w'=>w'.cell? ⟨w.heap.size,4,none⟩=some (.slice (some ⟨bl,ol,none⟩) l1.length lc)/\w'.cell? ⟨w.heap.size+1,4,none⟩=some (.slice (some ⟨bk,ok,none⟩) l2.length ld)/\w'.cell? ⟨bl,ol+j*6,none⟩=some (.int .i64 x.kind)/\w'.cell? ⟨bl,ol+j*6+1,none⟩=some (.bool x.bool)/\w'.cell? ⟨bl,ol+j*6+2,none⟩=some (.int .i64 x.int)/\w'.cell? ⟨bl,ol+j*6+3,none⟩=some (.string x.str)/\w'.cell? ⟨bl,ol+j*6+4,none⟩=some (.slice la' x.list.length lc')/\w'.cell? ⟨bl,ol+j*6+5,none⟩=some (.slice ma' x.map.length mc')/\w'.cell? ⟨bk,ok+j*6,none⟩=some (.int .i64 y.kind)/\w'.cell? ⟨bk,ok+j*6+1,none⟩=some (.bool y.bool)/\w'.cell? ⟨bk,ok+j*6+2,none⟩=some (.int .i64 y.int)/\w'.cell? ⟨bk,ok+j*6+3,none⟩=some (.string y.str)/\w'.cell? ⟨bk,ok+j*6+4,none⟩=some (.slice lb' y.list.length ld')/\w'.cell? ⟨bk,ok+j*6+5,none⟩=some (.slice mb' y.map.length md')) (go_keep)
    (first | (go_at_call 36;refine (HIH.out _ _ _ (HR.out.keep (by exact Below.drew (Below.refl _ _))) (HR'.out.keep (by exact Below.drew (Below.refl _ _)))).mono ?_;rintro e w1 ⟨r,rfl,hr,hb1⟩;have hcb:=(bcell (Below.next (Below.drew (Below.refl wr.heap.size wr)) hb1)).1;have u0:=(hcb _ _ hbl0).trans c0;have v0:=(hcb _ _ hbk0).trans e0;have u1:=(hcb _ _ hbl0).trans c1;have v1:=(hcb _ _ hbk0).trans e1;have u2:=(hcb _ _ hbl0).trans c2;have v2:=(hcb _ _ hbk0).trans e2;have u3:=(hcb _ _ hbl0).trans c3;have v3:=(hcb _ _ hbk0).trans e3;have u4:=(hcb _ _ hbl0).trans c4;have v4:=(hcb _ _ hbk0).trans e4;have u5:=(hcb _ _ hbl0).trans c5;have v5:=(hcb _ _ hbk0).trans e5;have u7:=(hcb _ _ hx1.lt).trans b4;have u8:=(hcb _ _ hx2.lt).trans d4;have HB1:=h_ hb1;have HRR:=h_ hr;clear hb1 hr hcb))
   have hb2:=Below.next (Below.drew (Below.refl wr.heap.size wr)) HB1.out;clear u0 u1 u2 u3 u4 u5 v0 v1 v2 v3 v4 v5 u7 u8
   cases r with
   | true=>
    have HE:=h_ (HSTEP.out (HRR.out.1 rfl));go_wp2_with fail
    go_roundw
    case rel=>exact ⟨j+1,by omega,by go_num,HE,Below.next hbw hb2,hx1.keep hb2,hx2.keep hb2⟩
    case measure=>simp [intOf];omega
   | false=>
    have HN:=h_ (HNO.out (fun e=>by have:=HRR.out.2 e;cases this));go_wp2_with fail;go_ret
    exact SamePost.no HN.out (Below.next hbw hb2)
  ·have HLE:Hid (l1=l2):=List.ext_getElem HLL.out fun i hi hi'=>hall.out i hi hi' (by omega)
   clear hall;go_wp2_with fail
   go_loopw [6] (fun i wr=>∃ q:Nat,q<=m1.length/\i=.int .i64 q/\Hid (∀ j (hj:j < m1.length) (hj':j < m2.length),j < q->m1[j]=m2[j])/\Below w.heap.size w wr/\Blk wr w.heap.size 41 #[.int .i64 k1,.bool b1,.int .i64 n1,.string s1,.slice la l1.length lc,.slice ma m1.length mc]/\Blk wr (w.heap.size+1) 41 #[.int .i64 k1,.bool b1,.int .i64 n1,.string s1,.slice lb l2.length ld,.slice mb m2.length md]) (fun i _=>m1.length - (intOf i).toNat)
   case atStart=>exact ⟨0,Nat.zero_le _,rfl,fun j _ _ h=>by omega,hbw,hx1,hx2⟩
   case round=>
    clear hbw hx1 hx2 b4 d4 b5 d5 hlt hj;obtain ⟨j,hj,rfl,hall,hbw,hx1,hx2⟩:=hrel;have b5:wr.cell? ⟨w.heap.size,5,none⟩=some (.slice ma m1.length mc):=hx1.cell 5;have d5:wr.cell? ⟨w.heap.size+1,5,none⟩=some (.slice mb m2.length md):=hx2.cell 5
    by_cases hlt:j < m1.length
    ·have hlt2:j < m2.length:=by have:=HMM.out;omega
     obtain ⟨bl,ol,la',lc',ma',mc',rfl, -,hbl0, -,⟨c0,c1,c2,c3,c4,c5,c6⟩,hr⟩:=(hM.keep hbw).at_ hlt;obtain ⟨bk,ok,lb',ld',mb',md',rfl, -,hbk0, -,⟨e0,e1,e2,e3,e4,e5,e6⟩,hr'⟩:=(hM'.keep hbw).at_ hlt2;have HIH:=h_ (fun w v v' h h'=>ihm _ (List.getElem_mem hlt) (m2[j]'hlt2).2 w S S' v v' h h')
     have HSTEP:Hid (m1[j]=m2[j]->∀ i (hi:i < m1.length) (hi':i < m2.length),i < j+1->m1[i]=m2[i]):=fun he i hi hi' h=>by
      rcases Nat.lt_or_ge i j with h2 | h2
      ·exact hall.out i hi hi' h2
      ·obtain rfl:i=j:=by omega
       exact he
     have HNO:Hid (¬ m1[j]=m2[j]->¬ a=b):=fun he e=>he (by
      have e2:=(HEQ.out.1 e).2.2.2.2.2
      subst e2;rfl)
     generalize m1[j]=px at*
     generalize m2[j]=py at*
     obtain ⟨p1,x⟩:=px;obtain ⟨p2,y⟩:=py
     simp only at*
     have HR:=h_ hr;have HR':=h_ hr'
     have hi1:(0:Int)<=(j:Int):=by omega
     have hi2:(j:Int) < (m1.length:Int):=by omega
     have hi3:(j:Int) < (m2.length:Int):=by omega
     clear hr hr'
     by_cases hk:p1=p2
     ·subst hk
      go_wp2_with fail
      go_region_held3 (fun w'=>w'.cell? ⟨w.heap.size,5,none⟩=some (.slice (some ⟨bl,ol,none⟩) m1.length mc)/\w'.cell? ⟨w.heap.size+1,5,none⟩=some (.slice (some ⟨bk,ok,none⟩) m2.length md)/\w'.cell? ⟨bl,ol+j*7,none⟩=some (.string p1)/\w'.cell? ⟨bk,ok+j*7,none⟩=some (.string p1)/\w'.cell? ⟨bl,ol+j*7+1,none⟩=some (.int .i64 x.kind)/\w'.cell? ⟨bl,ol+j*7+2,none⟩=some (.bool x.bool)/\w'.cell? ⟨bl,ol+j*7+3,none⟩=some (.int .i64 x.int)/\w'.cell? ⟨bl,ol+j*7+4,none⟩=some (.string x.str)/\w'.cell? ⟨bl,ol+j*7+5,none⟩=some (.slice la' x.list.length lc')/\w'.cell? ⟨bl,ol+j*7+6,none⟩=some (.slice ma' x.map.length mc')/\w'.cell? ⟨bk,ok+j*7+1,none⟩=some (.int .i64 y.kind)/\w'.cell? ⟨bk,ok+j*7+2,none⟩=some (.bool y.bool)/\w'.cell? ⟨bk,ok+j*7+3,none⟩=some (.int .i64 y.int)/\w'.cell? ⟨bk,ok+j*7+4,none⟩=some (.string y.str)/\w'.cell? ⟨bk,ok+j*7+5,none⟩=some (.slice lb' y.list.length ld')/\w'.cell? ⟨bk,ok+j*7+6,none⟩=some (.slice mb' y.map.length md')) (go_keep)
       (first | (go_at_call 36;refine (HIH.out _ _ _ (HR.out.keep (by exact Below.drew (Below.refl _ _))) (HR'.out.keep (by exact Below.drew (Below.refl _ _)))).mono ?_;rintro e w1 ⟨r,rfl,hr,hb1⟩;have hcb:=(bcell (Below.next (Below.drew (Below.refl wr.heap.size wr)) hb1)).1;have u0:=(hcb _ _ hbl0).trans c0;have v0:=(hcb _ _ hbk0).trans e0;have u1:=(hcb _ _ hbl0).trans c1;have v1:=(hcb _ _ hbk0).trans e1;have u2:=(hcb _ _ hbl0).trans c2;have v2:=(hcb _ _ hbk0).trans e2;have u3:=(hcb _ _ hbl0).trans c3;have v3:=(hcb _ _ hbk0).trans e3;have u4:=(hcb _ _ hbl0).trans c4;have v4:=(hcb _ _ hbk0).trans e4;have u5:=(hcb _ _ hbl0).trans c5;have v5:=(hcb _ _ hbk0).trans e5;have u6:=(hcb _ _ hbl0).trans c6;have v6:=(hcb _ _ hbk0).trans e6;have u7:=(hcb _ _ hx1.lt).trans b5;have u8:=(hcb _ _ hx2.lt).trans d5;have HB1:=h_ hb1;have HRR:=h_ hr;clear hb1 hr hcb))
      have hb2:=Below.next (Below.drew (Below.refl wr.heap.size wr)) HB1.out;clear u0 u1 u2 u3 u4 u5 u6 v0 v1 v2 v3 v4 v5 v6 u7 u8
      cases r with
      | true=>
       have HE:=h_ (HSTEP.out (by rw [HRR.out.1 rfl]));go_wp2_with fail
       go_roundw
       case rel=>exact ⟨j+1,by omega,by go_num,HE,Below.next hbw hb2,hx1.keep hb2,hx2.keep hb2⟩
       case measure=>simp [intOf];omega
      | false=>
       have HN:=h_ (HNO.out (fun e=>by have:=HRR.out.2 (by injection e);cases this));go_wp2_with fail;go_ret
       exact SamePost.no HN.out (Below.next hbw hb2)
     ·have HN:=h_ (HNO.out (fun e=>hk (by injection e)))
      have gk:(p1.toList==p2.toList)=false:=by rw [keq_iff];simpa using hk
      clear hk;go_wp2_with fail
      go_quiet (fail)
      go_wp2_with fail;go_ret
      exact SamePost.no HN.out (Below.drewN hbw _)
    ·have HME:Hid (a=b):=HEQ.out.2 ⟨by trivial,by trivial,by trivial,by trivial,HLE.out,List.ext_getElem HMM.out fun i hi hi'=>hall.out i hi hi' (by omega)⟩
     clear hall;go_wp2_with fail;go_ret
     exact SamePost.yes HME.out hbw
end Go.Proofs.YtnblmhfgmehnnaaGreatDoor
namespace Go.Proofs.YtnblmhfgmehnnaaGreatDoor
open Go.RowKit Go.Lib
attribute [local go_sem ↓] Go.wp_at_zero Go.wp_at_succ
theorem same_self (t:T) (w:World) (S S':Nat->Prop) (v v':Value) (h:RepT w S v t) (h':RepT w S' v' t):Calls Tryz.prog 36 #[v,v'] w fun e w'=>e=.returned (.bool true)/\Below w.heap.size w w':=
 (rsame t t w S S' v v' h h').mono fun e w' ⟨r,h1,h2,h3⟩=>⟨by rw [h1,h2.2 rfl],h3⟩
theorem texpr {w:World} {S:Nat->Prop} {cs:List Value} {x:Ex} (h:RepX w S cs x):∀ (W:World) (S2:Nat->Prop) (cs2:List Value),Below w.heap.size w W->RepX W S2 cs2 x->Calls Tryz.prog 19 #[.agg (List.toArray cs),.agg (List.toArray cs2)] W fun e w'=>e=.returned (.bool true)/\Below W.heap.size W w':=by
 induction h with
 | mk k v nm st ar la lc ma mc sa sc aa ac C hk hv hn hs hsr har ha hr ih=>
 intro W S2 cs2 hW hx2;obtain ⟨la2,lc2,ma2,mc2,sa2,sc2,aa2,ac2,rfl,hp2⟩:=hx2.inv
 show Calls Tryz.prog 19 #[.agg #[.int .i64 k,.int .i64 v.kind,.bool v.bool,.int .i64 v.int,.string v.str,.slice la v.list.length lc,.slice ma v.map.length mc,.string nm,.slice sa st.length sc,.slice aa ar.length ac],.agg #[.int .i64 k,.int .i64 v.kind,.bool v.bool,.int .i64 v.int,.string v.str,.slice la2 v.list.length lc2,.slice ma2 v.map.length mc2,.string nm,.slice sa2 st.length sc2,.slice aa2 ar.length ac2]] W _
 have hwW:=hW.size;have HV:=h_ (show RepT W S (.agg #[.int .i64 v.kind,.bool v.bool,.int .i64 v.int,.string v.str,.slice la v.list.length lc,.slice ma v.map.length mc]) v from hv.mono (fun b hb _=>hb) (fun b o hb hlt=>hW.cell hlt));have HV2:=h_ (show RepT W S2 (.agg #[.int .i64 v.kind,.bool v.bool,.int .i64 v.int,.string v.str,.slice la2 v.list.length lc2,.slice ma2 v.map.length mc2]) v from hp2.val);have HS:=h_ (show RepS W S sa st from hs.mono (fun b hb _=>hb) (fun b o hb hlt=>hW.cell hlt));have HS2:=h_ (show RepS W S2 sa2 st from hp2.steps)
 have HA:=h_ (fun i (hi:i < ar.length)=>show ∃ b o,aa=some ⟨b,o,none⟩/\b < W.heap.size/\cellsAt W b (o+i*10) (C i) from by
  obtain ⟨b,o,e,hb,hc⟩:=ha i hi
  have hlt:b < w.heap.size:=by have hl:=(hr i hi).len;generalize C i=cs at hc hl;cases cs with | nil=>simp at hl | cons c cs=>exact hc.lt
  exact ⟨b,o,e,by omega,hc.keep fun i=>hW.cell hlt⟩)
 have HA2:=h_ (fun i (hi:i < ar.length)=>show ∃ b o cs,aa2=some ⟨b,o,none⟩/\b < W.heap.size/\cellsAt W b (o+i*10) cs/\RepX W S2 cs ar[i] from by
  obtain ⟨b,o,cs,e,hb,hc,hx⟩:=hp2.args i hi
  exact ⟨b,o,cs,e,by have hl:=hx.len;cases cs with | nil=>simp at hl | cons c cs=>exact hc.lt,hc,hx⟩)
 have HR:=h_ (fun i (hi:i < ar.length)=>(hr i hi).inv);have HIH:=h_ ih;have hn1:=har.2.2;have hn2:=hsr.2.2;have HW:=h_ hW;clear hk hv hn hs hsr har ha hr ih hW hx2 hp2;have hb1:=Below.new W (.cells #[.int .i64 k,.int .i64 v.kind,.bool v.bool,.int .i64 v.int,.string v.str,.slice la v.list.length lc,.slice ma v.map.length mc,.string nm,.slice sa st.length sc,.slice aa ar.length ac] 50);have h1:=Blk.new W 50 #[.int .i64 k,.int .i64 v.kind,.bool v.bool,.int .i64 v.int,.string v.str,.slice la v.list.length lc,.slice ma v.map.length mc,.string nm,.slice sa st.length sc,.slice aa ar.length ac];obtain ⟨W1,e1⟩:∃ z,z=W.alloc (.cells #[.int .i64 k,.int .i64 v.kind,.bool v.bool,.int .i64 v.int,.string v.str,.slice la v.list.length lc,.slice ma v.map.length mc,.string nm,.slice sa st.length sc,.slice aa ar.length ac] 50):=⟨_,rfl⟩
 have z1:W1.heap.size=W.heap.size+1:=by rw [e1];simp
 rw [<-e1] at hb1 h1;have hb2:=Below.new W1 (.cells #[.int .i64 k,.int .i64 v.kind,.bool v.bool,.int .i64 v.int,.string v.str,.slice la2 v.list.length lc2,.slice ma2 v.map.length mc2,.string nm,.slice sa2 st.length sc2,.slice aa2 ar.length ac2] 45);have h2:=Blk.new W1 45 #[.int .i64 k,.int .i64 v.kind,.bool v.bool,.int .i64 v.int,.string v.str,.slice la2 v.list.length lc2,.slice ma2 v.map.length mc2,.string nm,.slice sa2 st.length sc2,.slice aa2 ar.length ac2];obtain ⟨W2,e2⟩:∃ z,z=W1.alloc (.cells #[.int .i64 k,.int .i64 v.kind,.bool v.bool,.int .i64 v.int,.string v.str,.slice la2 v.list.length lc2,.slice ma2 v.map.length mc2,.string nm,.slice sa2 st.length sc2,.slice aa2 ar.length ac2] 45):=⟨_,rfl⟩;rw [<-e2] at hb2 h2;obtain ⟨n1,en1⟩:∃ z,z=W.heap.size:=⟨_,rfl⟩;obtain ⟨n2,en2⟩:∃ z,z=W1.heap.size:=⟨_,rfl⟩;have HB2:=h_ (Below.next hb1 hb2);have H1:=h_ (h1.keep hb2);have H2:=h_ h2;rw [<-en1] at H1;rw [<-en2] at H2
 have hn12:n1+1=n2:=by omega
 have E1:=h_ e1;have E2:=h_ e2;have N1:=h_ en1;have HN12:=h_ hn12
 have hl12:n1 < n2:=by omega
 clear h1 h2 hb1 hb2 e1 e2 z1 en1 en2 hn12;have CS:=h_ (fun (W':World) (hb:Below W.heap.size W W')=>same_self v W' S S2 _ _ (HV.out.keep hb) (HV2.out.keep hb))
 go_enter Tryz.func19,Tryz.ntmps19
 go_upto_region 1 with fail;rw [<-E1.out,<-E2.out,<-N1.out,HN12.out];have k1:=H1.out.cell;have f1:=H1.out.frozen;have l1:=H1.out.lt;have k2:=H2.out.cell;have f2:=H2.out.frozen;have l2:=H2.out.lt;go_wp2_with fail
 refine (CS.out _ HB2.out).mono ?_
 rintro e w3 ⟨rfl,hb3⟩;have HB3:=h_ (Below.next HB2.out hb3);have H13:=h_ (H1.out.keep hb3);have H23:=h_ (H2.out.keep hb3);clear hb3 k1 f1 l1 k2 f2 l2;have k1:=H13.out.cell;have f1:=H13.out.frozen;have l1:=H13.out.lt;have k2:=H23.out.cell;have f2:=H23.out.frozen;have l2:=H23.out.lt;go_wp2_with fail;have hq0:True:=trivial
 go_loopw [48] (fun x48 wr=>∃ q:Nat,q<=st.length/\x48=.int .i64 q/\Hid (Below W.heap.size W wr)/\Hid (Blk wr n1 50 #[.int .i64 k,.int .i64 v.kind,.bool v.bool,.int .i64 v.int,.string v.str,.slice la v.list.length lc,.slice ma v.map.length mc,.string nm,.slice sa st.length sc,.slice aa ar.length ac])/\Hid (Blk wr n2 45 #[.int .i64 k,.int .i64 v.kind,.bool v.bool,.int .i64 v.int,.string v.str,.slice la2 v.list.length lc2,.slice ma2 v.map.length mc2,.string nm,.slice sa2 st.length sc2,.slice aa2 ar.length ac2])) (fun x _=>st.length - (Lib.intOf x).toNat)
 case atStart=>exact ⟨0,Nat.zero_le _,rfl,HB3,H13,H23⟩
 case round=>
  obtain ⟨q,hq,rfl,HBQ,HQ1,HQ2⟩:=hrel;clear k1 f1 l1 k2 f2 l2
  by_cases hlt:q < st.length
  ·obtain ⟨b,bo,rfl, -,hbl,hc, -⟩:=HS.out q hlt
   obtain ⟨b2,bo2,rfl, -,hbl2,hc2, -⟩:=HS2.out q hlt;have hcw:wr.cell? ⟨b,bo+q,none⟩=some (.string st[q]):=(HBQ.out.cell (p:=⟨b,bo+q,none⟩) hbl).trans hc;have hcw2:wr.cell? ⟨b2,bo2+q,none⟩=some (.string st[q]):=(HBQ.out.cell (p:=⟨b2,bo2+q,none⟩) hbl2).trans hc2
   have hg0:(0:Int)<=(q:Int):=by omega
   have hg1:(q:Int) < (st.length:Int):=by omega
   have hwk:IntKind.i64.wrap ((q:Int)+1)=(q:Int)+1:=wrap_fit (by omega) (by omega)
   generalize st[q]=sq at hcw hcw2
   have k1:=HQ1.out.cell;have f1:=HQ1.out.frozen;have l1:=HQ1.out.lt;have k2:=HQ2.out.cell;have f2:=HQ2.out.frozen;have l2:=HQ2.out.lt;have hs1:=HBQ.out.size
   have hlb:b < wr.heap.size:=by omega
   have hlb2:b2 < wr.heap.size:=by omega
   clear hc hc2;go_wp2_with fail
   go_region
   go_wp2_with fail
   go_roundw
   case rel=>exact ⟨q+1,by omega,by go_num,h_ (Below.drew HBQ.out),h_ (HQ1.out.drew),h_ (HQ2.out.drew)⟩
   case measure=>simp [Lib.intOf];omega
  ·have hge:¬ (q:Int) < (st.length:Int):=by omega
   have k1:=HQ1.out.cell;have f1:=HQ1.out.frozen;have l1:=HQ1.out.lt;have k2:=HQ2.out.cell;have f2:=HQ2.out.frozen;have l2:=HQ2.out.lt;clear hlt;go_wp2_with fail
   go_loopw [66] (fun x66 wr=>∃ q:Nat,q<=ar.length/\x66=.int .i64 q/\Hid (Below W.heap.size W wr)/\Hid (Blk wr n1 50 #[.int .i64 k,.int .i64 v.kind,.bool v.bool,.int .i64 v.int,.string v.str,.slice la v.list.length lc,.slice ma v.map.length mc,.string nm,.slice sa st.length sc,.slice aa ar.length ac])/\Hid (Blk wr n2 45 #[.int .i64 k,.int .i64 v.kind,.bool v.bool,.int .i64 v.int,.string v.str,.slice la2 v.list.length lc2,.slice ma2 v.map.length mc2,.string nm,.slice sa2 st.length sc2,.slice aa2 ar.length ac2])) (fun x _=>ar.length - (Lib.intOf x).toNat)
   case atStart=>exact ⟨0,Nat.zero_le _,rfl,HBQ,HQ1,HQ2⟩
   case round=>
    obtain ⟨q,hq,rfl,HBP,HP1,HP2⟩:=hrel;clear k1 f1 l1 k2 f2 l2
    by_cases hlt:q < ar.length
    ·obtain ⟨b,bo,rfl,hbl,hcell⟩:=HA.out q hlt
     obtain ⟨b2,bo2,csB,rfl,hbl2,hcell2,hxB⟩:=HA2.out q hlt;obtain ⟨lay,lcy,may,mcy,say,scy,aay,acy,hC, -⟩:=HR.out q hlt;have hih:=HIH.out q hlt;rw [hC] at hcell hih;obtain ⟨y,hy⟩:∃ z,z=ar[q]:=⟨_,rfl⟩;rw [<-hy] at hcell hih hxB;obtain ⟨laz,lcz,maz,mcz,saz,scz,aaz,acz,rfl, -⟩:=hxB.inv
     have hcw:cellsAt wr b (bo+q*10) [.int .i64 y.kind,.int .i64 y.val.kind,.bool y.val.bool,.int .i64 y.val.int,.string y.val.str,.slice lay y.val.list.length lcy,.slice may y.val.map.length mcy,.string y.name,.slice say y.steps.length scy,.slice aay y.args.length acy]:=hcell.keep fun i=>HBP.out.cell (p:=⟨b,i,none⟩) hbl
     have hdw:cellsAt wr b2 (bo2+q*10) [.int .i64 y.kind,.int .i64 y.val.kind,.bool y.val.bool,.int .i64 y.val.int,.string y.val.str,.slice laz y.val.list.length lcz,.slice maz y.val.map.length mcz,.string y.name,.slice saz y.steps.length scz,.slice aaz y.args.length acz]:=hcell2.keep fun i=>HBP.out.cell (p:=⟨b2,i,none⟩) hbl2
     have hsz:=HBP.out.size
     have hlb:b < wr.heap.size:=by omega
     have hlb2:b2 < wr.heap.size:=by omega
     have HSS:=h_ (show ∀ wx,Below wr.heap.size wr wx->(fun w'=>(∀ i,w'.cell? ⟨n1,i,none⟩=(#[.int .i64 k,.int .i64 v.kind,.bool v.bool,.int .i64 v.int,.string v.str,.slice la v.list.length lc,.slice ma v.map.length mc,.string nm,.slice sa st.length sc,.slice (some ⟨b,bo,none⟩) ar.length ac]:Array Value)[i]?)/\(∀ i,w'.cell? ⟨n2,i,none⟩=(#[.int .i64 k,.int .i64 v.kind,.bool v.bool,.int .i64 v.int,.string v.str,.slice la2 v.list.length lc2,.slice ma2 v.map.length mc2,.string nm,.slice sa2 st.length sc2,.slice (some ⟨b2,bo2,none⟩) ar.length ac2]:Array Value)[i]?)/\w'.cell? ⟨b,bo+q*10,none⟩=some (.int .i64 y.kind)/\w'.cell? ⟨b,bo+q*10+1,none⟩=some (.int .i64 y.val.kind)/\w'.cell? ⟨b,bo+q*10+2,none⟩=some (.bool y.val.bool)/\w'.cell? ⟨b,bo+q*10+3,none⟩=some (.int .i64 y.val.int)/\w'.cell? ⟨b,bo+q*10+4,none⟩=some (.string y.val.str)/\w'.cell? ⟨b,bo+q*10+5,none⟩=some (.slice lay y.val.list.length lcy)/\w'.cell? ⟨b,bo+q*10+6,none⟩=some (.slice may y.val.map.length mcy)/\w'.cell? ⟨b,bo+q*10+7,none⟩=some (.string y.name)/\w'.cell? ⟨b,bo+q*10+8,none⟩=some (.slice say y.steps.length scy)/\w'.cell? ⟨b,bo+q*10+9,none⟩=some (.slice aay y.args.length acy)/\w'.cell? ⟨b2,bo2+q*10,none⟩=some (.int .i64 y.kind)/\w'.cell? ⟨b2,bo2+q*10+1,none⟩=some (.int .i64 y.val.kind)/\w'.cell? ⟨b2,bo2+q*10+2,none⟩=some (.bool y.val.bool)/\w'.cell? ⟨b2,bo2+q*10+3,none⟩=some (.int .i64 y.val.int)/\w'.cell? ⟨b2,bo2+q*10+4,none⟩=some (.string y.val.str)/\w'.cell? ⟨b2,bo2+q*10+5,none⟩=some (.slice laz y.val.list.length lcz)/\w'.cell? ⟨b2,bo2+q*10+6,none⟩=some (.slice maz y.val.map.length mcz)/\w'.cell? ⟨b2,bo2+q*10+7,none⟩=some (.string y.name)/\w'.cell? ⟨b2,bo2+q*10+8,none⟩=some (.slice saz y.steps.length scz)/\w'.cell? ⟨b2,bo2+q*10+9,none⟩=some (.slice aaz y.args.length acz)) wx from fun wx hx=>⟨(HP1.out.keep hx).cell,(HP2.out.keep hx).cell,(hx.cell (p:=⟨b,bo+q*10,none⟩) hlb).trans (hcw 0 _ rfl),(hx.cell (p:=⟨b,bo+q*10+1,none⟩) hlb).trans (hcw 1 _ rfl),(hx.cell (p:=⟨b,bo+q*10+2,none⟩) hlb).trans (hcw 2 _ rfl),(hx.cell (p:=⟨b,bo+q*10+3,none⟩) hlb).trans (hcw 3 _ rfl),(hx.cell (p:=⟨b,bo+q*10+4,none⟩) hlb).trans (hcw 4 _ rfl),(hx.cell (p:=⟨b,bo+q*10+5,none⟩) hlb).trans (hcw 5 _ rfl),(hx.cell (p:=⟨b,bo+q*10+6,none⟩) hlb).trans (hcw 6 _ rfl),(hx.cell (p:=⟨b,bo+q*10+7,none⟩) hlb).trans (hcw 7 _ rfl),(hx.cell (p:=⟨b,bo+q*10+8,none⟩) hlb).trans (hcw 8 _ rfl),(hx.cell (p:=⟨b,bo+q*10+9,none⟩) hlb).trans (hcw 9 _ rfl),(hx.cell (p:=⟨b2,bo2+q*10,none⟩) hlb2).trans (hdw 0 _ rfl),(hx.cell (p:=⟨b2,bo2+q*10+1,none⟩) hlb2).trans (hdw 1 _ rfl),(hx.cell (p:=⟨b2,bo2+q*10+2,none⟩) hlb2).trans (hdw 2 _ rfl),(hx.cell (p:=⟨b2,bo2+q*10+3,none⟩) hlb2).trans (hdw 3 _ rfl),(hx.cell (p:=⟨b2,bo2+q*10+4,none⟩) hlb2).trans (hdw 4 _ rfl),(hx.cell (p:=⟨b2,bo2+q*10+5,none⟩) hlb2).trans (hdw 5 _ rfl),(hx.cell (p:=⟨b2,bo2+q*10+6,none⟩) hlb2).trans (hdw 6 _ rfl),(hx.cell (p:=⟨b2,bo2+q*10+7,none⟩) hlb2).trans (hdw 7 _ rfl),(hx.cell (p:=⟨b2,bo2+q*10+8,none⟩) hlb2).trans (hdw 8 _ rfl),(hx.cell (p:=⟨b2,bo2+q*10+9,none⟩) hlb2).trans (hdw 9 _ rfl)⟩);have HIHY:=h_ hih;have HXB:=h_ (hxB.keep HBP.out);have HWR:=h_ (show Below w.heap.size w wr from ⟨HBP.out.os.trans HW.out.os,HBP.out.tape.trans HW.out.tape,HBP.out.output.trans HW.out.output,Nat.le_trans HW.out.size HBP.out.size,fun b hb=>(HBP.out.block b (by omega)).trans (HW.out.block b hb)⟩)
     have hg0:(0:Int)<=(q:Int):=by omega
     have hg1:(q:Int) < (ar.length:Int):=by omega
     have hwk:IntKind.i64.wrap ((q:Int)+1)=(q:Int)+1:=wrap_fit (by omega) (by omega);clear hcell hcell2 hcw hdw hC hih hxB hy;go_upto_region 12 with fail
     refine wp_region_tail (S:=(fun w'=>(∀ i,w'.cell? ⟨n1,i,none⟩=(#[.int .i64 k,.int .i64 v.kind,.bool v.bool,.int .i64 v.int,.string v.str,.slice la v.list.length lc,.slice ma v.map.length mc,.string nm,.slice sa st.length sc,.slice (some ⟨b,bo,none⟩) ar.length ac]:Array Value)[i]?)/\(∀ i,w'.cell? ⟨n2,i,none⟩=(#[.int .i64 k,.int .i64 v.kind,.bool v.bool,.int .i64 v.int,.string v.str,.slice la2 v.list.length lc2,.slice ma2 v.map.length mc2,.string nm,.slice sa2 st.length sc2,.slice (some ⟨b2,bo2,none⟩) ar.length ac2]:Array Value)[i]?)/\w'.cell? ⟨b,bo+q*10,none⟩=some (.int .i64 y.kind)/\w'.cell? ⟨b,bo+q*10+1,none⟩=some (.int .i64 y.val.kind)/\w'.cell? ⟨b,bo+q*10+2,none⟩=some (.bool y.val.bool)/\w'.cell? ⟨b,bo+q*10+3,none⟩=some (.int .i64 y.val.int)/\w'.cell? ⟨b,bo+q*10+4,none⟩=some (.string y.val.str)/\w'.cell? ⟨b,bo+q*10+5,none⟩=some (.slice lay y.val.list.length lcy)/\w'.cell? ⟨b,bo+q*10+6,none⟩=some (.slice may y.val.map.length mcy)/\w'.cell? ⟨b,bo+q*10+7,none⟩=some (.string y.name)/\w'.cell? ⟨b,bo+q*10+8,none⟩=some (.slice say y.steps.length scy)/\w'.cell? ⟨b,bo+q*10+9,none⟩=some (.slice aay y.args.length acy)/\w'.cell? ⟨b2,bo2+q*10,none⟩=some (.int .i64 y.kind)/\w'.cell? ⟨b2,bo2+q*10+1,none⟩=some (.int .i64 y.val.kind)/\w'.cell? ⟨b2,bo2+q*10+2,none⟩=some (.bool y.val.bool)/\w'.cell? ⟨b2,bo2+q*10+3,none⟩=some (.int .i64 y.val.int)/\w'.cell? ⟨b2,bo2+q*10+4,none⟩=some (.string y.val.str)/\w'.cell? ⟨b2,bo2+q*10+5,none⟩=some (.slice laz y.val.list.length lcz)/\w'.cell? ⟨b2,bo2+q*10+6,none⟩=some (.slice maz y.val.map.length mcz)/\w'.cell? ⟨b2,bo2+q*10+7,none⟩=some (.string y.name)/\w'.cell? ⟨b2,bo2+q*10+8,none⟩=some (.slice saz y.steps.length scz)/\w'.cell? ⟨b2,bo2+q*10+9,none⟩=some (.slice aaz y.args.length acz))) 11 (by kernel_rfl) (by kernel_rfl) (by exact HSS.out _ (Below.refl _ _).drew) (fun hHeld=>?_)
     simp only [List.dropLast]
     refine mv_ 0 ?_
     refine mv_ 1 ?_
     refine mv_ 2 ?_
     refine mv_ 3 ?_
     refine mv_ 4 ?_
     refine mv_ 5 ?_
     refine mv_ 6 ?_
     refine mv_ 7 ?_
     refine mv_ 8 ?_
     refine mv_ 9 ?_
     refine mr_ 10 (fun K hK=>?_)
     go_simp
     refine (HIHY.out _ _ _ HWR.out.drew (HXB.out.keep (Below.drew (Below.refl _ _)))).mono ?_
     rintro e w8 ⟨rfl,hb8⟩;have HW8:=h_ (Below.next ((Below.refl wr.heap.size wr).drew) hb8);clear hb8;go_wp2_with fail
     refine hK.out _ _ (by exact HSS.out _ HW8.out) (fun hHeld=>?_)
     clear hK K
     try simp only [Act.put,pA_,pB_,pC_]
     refine wpAnyH_done (by kernel_rfl) ?_ _
     refine LastQ.step (by conv=>lhs;simp only [List.getElem?_toArray,List.getElem?_cons_succ,List.getElem?_cons_zero]) (fun K hK=>?_)
     go_simp
     refine hK.out _ _ ?_
     clear hK K
     try simp only [Act.put,pA_,pB_,pC_]
     go_wp2_with fail
     go_roundw
     case rel=>exact ⟨q+1,by omega,by go_num,h_ (Below.next HBP.out HW8.out),h_ (HP1.out.keep HW8.out),h_ (HP2.out.keep HW8.out)⟩
     case measure=>simp [Lib.intOf];omega
    ·have hge:¬ (q:Int) < (ar.length:Int):=by omega
     clear hlt;go_wp2_with fail;go_ret
     exact ⟨rfl,HBP.out⟩
end Go.Proofs.YtnblmhfgmehnnaaGreatDoor
