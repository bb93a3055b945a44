/- Several texts as one. -/
import Derived.Test.YtnblmhfgmehnnaaGreatDoorPeMv
import Derived.Test.YtnblmhfgmehnnaaGreatDoorPeAT
import Derived.Test.YtnblmhfgmehnnaaGreatDoorPeAV
import Derived.Test.YtnblmhfgmehnnaaGreatDoorPeAM
import Derived.Test.YtnblmhfgmehnnaaGreatDoorPeAS
import Derived.Test.YtnblmhfgmehnnaaGreatDoorPeAZ
set_option maxRecDepth 100000
set_option maxHeartbeats 16000000
namespace Go.Proofs.YtnblmhfgmehnnaaGreatDoor
open Go.RowKit Go.Lib
attribute [local go_sem ↓] Go.wp_at_zero Go.wp_at_succ
theorem own_snocNR {w:World} {B:Nat} {S:Nat->Prop} {A:OA_} {c:Nat} {l:List Nd} {x:Nd} {cs:List Value} (h:OwnE eltNR w B S A c l) (hx:RepN w (fun b=>S b/\Value.ownBlock (.slice A l.length c)≠some b) cs x) (hB:B<=w.heap.size) (hl:(l.length+1)*264<=140737488355328):
  ∃ A' c' w',(Builtin.append_ #[22,22] 22 #[.slice A l.length c,.slice (some ⟨w.heap.size,0,none⟩) 1 1]).run Tryz.prog (w.alloc (.cells cs.toArray 70))=.ok (.slice A' (l++[x]).length c') w'/\OwnE eltNR w' B S A' c' (l++[x])/\(w.alloc (.cells cs.toArray 70)).grownBy w' (Value.ownBlock (.slice A l.length c)):=by
 have ha:Below w.heap.size w (w.alloc (.cells cs.toArray 70)):=Below.new _ _
 exact own_append (E:=eltNR) (l2:=[x]) (es:=cs) (ad:=⟨w.heap.size,0,none⟩) (cc:=1) (ty:=22) (t:=22) rfl (h.keep ha) (by show (l.length+1)*264<=_;omega) (by simp;unfold maxLen;omega) (by simp;omega) (by rw [hx.len];rfl)
  (fun j u hu=>by rw [show (⟨w.heap.size,0,none⟩:Addr).add j=⟨w.heap.size,0+j,none⟩ from by unfold Addr.add;split <;>simp_all,Nat.zero_add,(Blk.new w 70 cs.toArray).cell];simpa using hu)
  (fun i hi=>by
   obtain rfl:i=0:=by simpa using hi
   have h10:=hx.len;rw [show (eltNR).sz=16 from rfl,Nat.zero_mul,List.drop_zero,List.take_of_length_le (by omega)]
   exact hx.keep ha)
def FromsPost (B:Nat) (S:Nat->Prop) (l:List Nd) (W:World) (e:Ending) (w':World):Prop:=
 ∃ A c,e=.returned (.slice A l.length c)/\RepNs w' (fun b=>(S b/\b < B)\/W.heap.size<=b) A l/\Room l.length c 264/\Below W.heap.size W w'
theorem take_snocN {l:List Nd} {q:Nat} (h:q < l.length):l.take (q+1)=l.take q++[l[q]]:=by rw [List.take_succ_eq_append_getElem h]
def FromR (l:List Nd):Prop:=∀ (w W:World) (S:Nat->Prop) (a:OA_) (c:Nat),RepNs w S a l->Room l.length c 264->Below w.heap.size w W->Calls Tryz.prog 14 #[.slice a l.length c] W (FromsPost w.heap.size S l W)
theorem tfroms (l:List Nd):FromR l:=by
 refine Nd.lists ?_ l
 intro l hP w W S a c hx hroom hW;have HP:=h_ hP;have HX:=h_ hx;have HW:=h_ hW;have HRM:=h_ hroom;have hn1:=hroom.2.2;clear hP hx hW hroom
 go_enter Tryz.func14,Tryz.ntmps14
 go_wp2_with fail
 go_loopw [3,8] (fun x3 x8 wr=>∃ (q:Nat) (L:List Nd) (A:OA_) (k:Nat),q<=l.length/\x8=.int .i64 q/\x3=.slice A L.length k/\Hid (L=l.take q)/\Hid (Below W.heap.size W wr)/\Hid (OwnE eltNR wr W.heap.size (fun b=>(S b/\b < w.heap.size)\/W.heap.size<=b) A k L)) (fun _ x8 _=>l.length - (Lib.intOf x8).toNat)
 case atStart=>exact ⟨0,[],none,0,Nat.zero_le _,rfl,rfl,h_ (by rw [List.take_zero]),h_ (Below.refl _ _),h_ OwnE.nil⟩
 case round=>
  obtain ⟨q,L,A,k,hq,rfl,rfl,HL,HB,HO⟩:=hrel
  by_cases hlt:q < l.length
  ·obtain ⟨b,bo,cs,rfl,hSb,hcell,hry⟩:=HX.out q hlt
   have hpq:=HP.out l[q] (List.getElem_mem hlt);have hst:=take_snocN hlt
   have hLl:L.length=q:=by rw [HL.out,List.length_take];omega
   rw [<-HL.out] at hst;obtain ⟨y,hy⟩:∃ z,z=l[q]:=⟨_,rfl⟩;rw [<-hy] at hry hpq hst;obtain ⟨la,lc,ma,mc,sa,sc,aa,ac,ba,bc,ea,ec,rfl,hp⟩:=hry.inv;have hlt0:b < w.heap.size:=hcell.lt;have HWR:=h_ (show Below w.heap.size w wr from HW.out.trans (HB.out.mono HW.out.size))
   have hcw:cellsAt wr b (bo+q*16) [.int .i64 y.kind,.string y.text,.int .i64 y.x.kind,.int .i64 y.x.val.kind,.bool y.x.val.bool,.int .i64 y.x.val.int,.string y.x.val.str,.slice la y.x.val.list.length lc,.slice ma y.x.val.map.length mc,.string y.x.name,.slice sa y.x.steps.length sc,.slice aa y.x.args.length ac,.string y.key,.string y.name,.slice ba y.body.length bc,.slice ea y.els.length ec]:=hcell.keep fun i=>HWR.out.cell (p:=⟨b,i,none⟩) hlt0
   have c0:wr.cell? ⟨b,bo+q*16,none⟩=some (.int .i64 y.kind):=hcw 0 _ rfl;have c1:wr.cell? ⟨b,bo+q*16+1,none⟩=some (.string y.text):=hcw 1 _ rfl;have c2:wr.cell? ⟨b,bo+q*16+2,none⟩=some (.int .i64 y.x.kind):=hcw 2 _ rfl;have c3:wr.cell? ⟨b,bo+q*16+3,none⟩=some (.int .i64 y.x.val.kind):=hcw 3 _ rfl;have c4:wr.cell? ⟨b,bo+q*16+4,none⟩=some (.bool y.x.val.bool):=hcw 4 _ rfl;have c5:wr.cell? ⟨b,bo+q*16+5,none⟩=some (.int .i64 y.x.val.int):=hcw 5 _ rfl;have c6:wr.cell? ⟨b,bo+q*16+6,none⟩=some (.string y.x.val.str):=hcw 6 _ rfl;have c7:wr.cell? ⟨b,bo+q*16+7,none⟩=some (.slice la y.x.val.list.length lc):=hcw 7 _ rfl;have c8:wr.cell? ⟨b,bo+q*16+8,none⟩=some (.slice ma y.x.val.map.length mc):=hcw 8 _ rfl;have c9:wr.cell? ⟨b,bo+q*16+9,none⟩=some (.string y.x.name):=hcw 9 _ rfl;have c10:wr.cell? ⟨b,bo+q*16+10,none⟩=some (.slice sa y.x.steps.length sc):=hcw 10 _ rfl;have c11:wr.cell? ⟨b,bo+q*16+11,none⟩=some (.slice aa y.x.args.length ac):=hcw 11 _ rfl;have c12:wr.cell? ⟨b,bo+q*16+12,none⟩=some (.string y.key):=hcw 12 _ rfl;have c13:wr.cell? ⟨b,bo+q*16+13,none⟩=some (.string y.name):=hcw 13 _ rfl;have c14:wr.cell? ⟨b,bo+q*16+14,none⟩=some (.slice ba y.body.length bc):=hcw 14 _ rfl;have c15:wr.cell? ⟨b,bo+q*16+15,none⟩=some (.slice ea y.els.length ec):=hcw 15 _ rfl;have hlb:b < wr.heap.size:=Nat.lt_of_lt_of_le hlt0 HWR.out.size
   have hg0:(0:Int)<=(q:Int):=by omega
   have hg1:(q:Int) < (l.length:Int):=by omega
   have hwk:IntKind.i64.wrap ((q:Int)+1)=(q:Int)+1:=wrap_fit (by omega) (by omega);have CX:=h_ (fun (W2:World) (hb:Below w.heap.size w W2)=>tfrom hp.x W2 hb);have CB:=h_ (fun (W2:World) (hb:Below w.heap.size w W2)=>hpq.1 w W2 S ba bc hp.body hp.broom hb);have CE:=h_ (fun (W2:World) (hb:Below w.heap.size w W2)=>hpq.2 w W2 S ea ec hp.els hp.eroom hb);have HQ:=h_ (⟨hp.kind,hp.text,hp.key,hp.name⟩:i64ok y.kind/\y.text.size<=140737488351232/\y.key.size<=140737488351232/\y.name.size<=140737488351232);have HST:=h_ hst;have HLL:=h_ hLl;have hba:=Below.new wr (.cells #[.int .i64 y.kind,.string y.text,.int .i64 y.x.kind,.int .i64 y.x.val.kind,.bool y.x.val.bool,.int .i64 y.x.val.int,.string y.x.val.str,.slice la y.x.val.list.length lc,.slice ma y.x.val.map.length mc,.string y.x.name,.slice sa y.x.steps.length sc,.slice aa y.x.args.length ac,.string y.key,.string y.name,.slice ba y.body.length bc,.slice ea y.els.length ec] 64);have hBA:=HB.out.alloc HB.out.size (.cells #[.int .i64 y.kind,.string y.text,.int .i64 y.x.kind,.int .i64 y.x.val.kind,.bool y.x.val.bool,.int .i64 y.x.val.int,.string y.x.val.str,.slice la y.x.val.list.length lc,.slice ma y.x.val.map.length mc,.string y.x.name,.slice sa y.x.steps.length sc,.slice aa y.x.args.length ac,.string y.key,.string y.name,.slice ba y.body.length bc,.slice ea y.els.length ec] 64);have hWA:=HWR.out.alloc HWR.out.size (.cells #[.int .i64 y.kind,.string y.text,.int .i64 y.x.kind,.int .i64 y.x.val.kind,.bool y.x.val.bool,.int .i64 y.x.val.int,.string y.x.val.str,.slice la y.x.val.list.length lc,.slice ma y.x.val.map.length mc,.string y.x.name,.slice sa y.x.steps.length sc,.slice aa y.x.args.length ac,.string y.key,.string y.name,.slice ba y.body.length bc,.slice ea y.els.length ec] 64);have hH5:=Blk.new wr 64 #[.int .i64 y.kind,.string y.text,.int .i64 y.x.kind,.int .i64 y.x.val.kind,.bool y.x.val.bool,.int .i64 y.x.val.int,.string y.x.val.str,.slice la y.x.val.list.length lc,.slice ma y.x.val.map.length mc,.string y.x.name,.slice sa y.x.steps.length sc,.slice aa y.x.args.length ac,.string y.key,.string y.name,.slice ba y.body.length bc,.slice ea y.els.length ec];have hOA:=HO.out.keep hba;have HROW:=h_ HO.out.own;have hWn:=HB.out.size;clear hcell hcw hry hp hpq hst hLl hy hSb;go_upto_region 5 with fail;obtain ⟨WA,eA⟩:∃ z,z=wr.alloc (.cells #[.int .i64 y.kind,.string y.text,.int .i64 y.x.kind,.int .i64 y.x.val.kind,.bool y.x.val.bool,.int .i64 y.x.val.int,.string y.x.val.str,.slice la y.x.val.list.length lc,.slice ma y.x.val.map.length mc,.string y.x.name,.slice sa y.x.steps.length sc,.slice aa y.x.args.length ac,.string y.key,.string y.name,.slice ba y.body.length bc,.slice ea y.els.length ec] 64):=⟨_,rfl⟩;obtain ⟨n5,e5⟩:∃ z,z=wr.heap.size:=⟨_,rfl⟩
   have hsa:n5 < WA.heap.size:=by rw [e5,eA];simp
   rw [<-eA] at hBA hWA hH5 hOA;rw [<-e5] at hH5 HROW hWn;rw [<-eA,<-e5];have HBA:=h_ hBA;have HWA:=h_ hWA;have H5:=h_ hH5;have HOA:=h_ hOA;clear hba hBA hWA hH5 hOA eA e5 c0 c1 c2 c3 c4 c5 c6 c7 c8 c9 c10 c11 c12 c13 c14 c15;have HSS:=h_ (show ∀ wx,Below WA.heap.size WA wx->(fun w'=>∀ i,w'.cell? ⟨n5,i,none⟩=(#[.int .i64 y.kind,.string y.text,.int .i64 y.x.kind,.int .i64 y.x.val.kind,.bool y.x.val.bool,.int .i64 y.x.val.int,.string y.x.val.str,.slice la y.x.val.list.length lc,.slice ma y.x.val.map.length mc,.string y.x.name,.slice sa y.x.steps.length sc,.slice aa y.x.args.length ac,.string y.key,.string y.name,.slice ba y.body.length bc,.slice ea y.els.length ec]:Array Value)[i]?) wx from fun wx hx=>(H5.out.keep hx).cell);have l5:=H5.out.lt
   refine wp_region_tail (S:=(fun w'=>∀ i,w'.cell? ⟨n5,i,none⟩=(#[.int .i64 y.kind,.string y.text,.int .i64 y.x.kind,.int .i64 y.x.val.kind,.bool y.x.val.bool,.int .i64 y.x.val.int,.string y.x.val.str,.slice la y.x.val.list.length lc,.slice ma y.x.val.map.length mc,.string y.x.name,.slice sa y.x.steps.length sc,.slice aa y.x.args.length ac,.string y.key,.string y.name,.slice ba y.body.length bc,.slice ea y.els.length ec]:Array Value)[i]?)) 21 (by kernel_rfl) (by kernel_rfl) (by exact HSS.out _ (Below.refl _ _).drew) (fun hHeld=>?_)
   simp only [List.dropLast]
   refine mv_ 0 ?_
   refine mv_ 1 ?_
   refine mv_ 2 ?_
   refine mv_ 3 ?_
   refine mv_ 4 ?_
   refine mv_ 5 ?_
   refine mv_ 6 ?_
   refine mv_ 8 ?_
   refine mv_ 9 ?_
   refine mv_ 10 ?_
   refine mv_ 11 ?_
   refine mv_ 12 ?_
   refine mv_ 13 ?_
   refine mv_ 15 ?_
   refine mv_ 16 ?_
   refine mr_ 7 (fun K hK=>?_)
   go_simp
   refine (CX.out _ HWA.out.drew).mono ?_
   rintro e w7 ⟨cs7,rfl,hr7,hb7⟩;obtain ⟨la7,lc7,ma7,mc7,sa7,sc7,aa7,ac7,rfl, -⟩:=hr7.inv;have HX7:=h_ (Below.next (Below.refl WA.heap.size WA).drew hb7);have HR7:=h_ (show RepX w7 (fun b=>(S b/\b < w.heap.size)\/n5<=b) _ y.x from hr7.weak (fun b hb _=>hb.elim .inl (fun h=> .inr (Nat.le_trans (Nat.le_of_lt hsa) (Nat.le_trans (Below.refl WA.heap.size WA).drew.size h)))));clear hr7 hb7;go_wp2_with fail
   refine hK.out _ _ (by exact HSS.out _ HX7.out) (fun hHeld=>?_)
   clear hK K
   try simp only [Act.put,pA_,pB_,pC_]
   refine mr_ 14 (fun K hK=>?_)
   go_simp
   refine (CB.out _ (HWA.out.trans (HX7.out.mono HWA.out.size))).mono ?_
   rintro e w14 ⟨ba7,bc7,rfl,hr14,hm14,hb14⟩;have HX14:=h_ (Below.next HX7.out hb14);have HR14:=h_ (show RepNs w14 (fun b=>(S b/\b < w.heap.size)\/n5<=b) ba7 y.body from hr14.mono (fun b hb _=>hb.elim .inl (fun h=> .inr (Nat.le_trans (Nat.le_of_lt hsa) (Nat.le_trans HX7.out.size h)))) (fun _ _ _ _=>rfl));have HM14:=h_ hm14;have HR7:=h_ (HR7.out.keep hb14);clear hr14 hb14 hm14;go_wp2_with fail
   refine hK.out _ _ (by exact HSS.out _ HX14.out) (fun hHeld=>?_)
   clear hK K
   try simp only [Act.put,pA_,pB_,pC_]
   refine mr_ 17 (fun K hK=>?_)
   go_simp
   refine (CE.out _ (HWA.out.trans (HX14.out.mono HWA.out.size))).mono ?_
   rintro e w17 ⟨ea7,ec7,rfl,hr17,hm17,hb17⟩;have HX17:=h_ (Below.next HX14.out hb17);have HR17:=h_ (show RepNs w17 (fun b=>(S b/\b < w.heap.size)\/n5<=b) ea7 y.els from hr17.mono (fun b hb _=>hb.elim .inl (fun h=> .inr (Nat.le_trans (Nat.le_of_lt hsa) (Nat.le_trans HX14.out.size h)))) (fun _ _ _ _=>rfl));have HM17:=h_ hm17;have HR7:=h_ (HR7.out.keep hb17);have HR14:=h_ (HR14.out.keep hb17);clear hr17 hb17 hm17;go_wp2_with fail
   refine hK.out _ _ (by exact HSS.out _ HX17.out) (fun hHeld=>?_)
   clear hK K
   try simp only [Act.put,pA_,pB_,pC_]
   refine mv_ 18 ?_
   refine mr_ 19 (fun K hK=>?_)
   go_simp
   refine hK.out _ _ (by exact HSS.out _ (HX17.out.alloc HX17.out.size _)) (fun hHeld=>?_)
   clear hK K
   try simp only [Act.put,pA_,pB_,pC_]
   refine mr_ 20 (fun K hK=>?_)
   have hsz:=HX17.out.size;have hrow5:∀ b,Value.ownBlock (.slice A L.length k)=some b->W.heap.size<=b/\b < n5:=HROW.out;have hpN:PartsN w17 (fun b=>(S b/\b < w.heap.size)\/n5<=b) la7 lc7 ma7 mc7 sa7 sc7 aa7 ac7 ba7 bc7 ea7 ec7 y:=⟨HQ.out.1,HQ.out.2.1,HR7.out,HQ.out.2.2.1,HQ.out.2.2.2,HM14.out,HM17.out,HR14.out,HR17.out⟩;obtain ⟨A9,c9,w9,hrun,ho9,hg9⟩:=own_snocNR (HOA.out.keep HX17.out) (x:=y) (cs:=[.int .i64 y.kind,.string y.text,.int .i64 y.x.kind,.int .i64 y.x.val.kind,.bool y.x.val.bool,.int .i64 y.x.val.int,.string y.x.val.str,.slice la7 y.x.val.list.length lc7,.slice ma7 y.x.val.map.length mc7,.string y.x.name,.slice sa7 y.x.steps.length sc7,.slice aa7 y.x.args.length ac7,.string y.key,.string y.name,.slice ba7 y.body.length bc7,.slice ea7 y.els.length ec7]) ((RepN.of hpN).weak (fun b hb hlt=>⟨hb.elim .inl (fun h=> .inr (by omega)),fun e=>by have h1:=hrow5 b e;rcases hb with h | h;have:=HW.out.size;omega;omega⟩)) (by omega) (by have:=HLL.out;omega);obtain ⟨L2,hL2⟩:∃ z,z=L++[y]:=⟨_,rfl⟩;rw [<-hL2] at hrun ho9;have HF5:=h_ ((H5.out.keep HX17.out).grow hg9 (fun e=>by have:=hrow5 _ e;omega));have HB9:=h_ (show Below W.heap.size W w9 from (Bar.grow (gc:=n5) ((Bar.of HBA.out).trans (Bar.of HX17.out)) hg9 (fun b e=>by have:=hrow5 _ e;omega)).under hWn);have HRUN:=h_ hrun;have HO9:=h_ ho9;have HL2:=h_ (show L2=l.take (q+1) from by rw [hL2,HST.out]);clear hrun ho9 hg9 hrow5 hL2 hpN hsz
   refine step_append_run rfl (.tmp 12) (.tmp 31) 22 rfl HRUN.out rfl rfl ?_
   refine hK.out _ _ (by exact HF5.out.cell) (fun hHeld=>?_)
   clear hK K
   try simp only [Act.put,pA_,pB_,pC_]
   refine wpAnyH_done (by kernel_rfl) ?_ _
   refine LastQ.step (by conv=>lhs;simp only [List.getElem?_toArray,List.getElem?_cons_succ,List.getElem?_cons_zero]) (fun K hK=>?_)
   go_simp
   refine hK.out _ _ ?_
   clear hK K
   try simp only [Act.put,pA_,pB_,pC_]
   go_wp2_with fail
   go_roundw
   case rel=>exact ⟨q+1,L2,A9,c9,by omega,by go_num,rfl,HL2,HB9,HO9⟩
   case measure=>simp [Lib.intOf];omega
  ·obtain rfl:q=l.length:=by omega
   have hLE:L=l:=by rw [HL.out,List.take_length]
   subst hLE;clear hlt;go_wp2_with fail;go_ret
   exact ⟨A,k,rfl,RepE.weak (E:=eltNR) HO.out.rep (fun _ hb _=>hb.elim id .inr),⟨HO.out.len.1,HO.out.len.2,hn1⟩,HB.out⟩
end Go.Proofs.YtnblmhfgmehnnaaGreatDoor
namespace Go.Proofs.YtnblmhfgmehnnaaGreatDoor
def szO (x:Ex):Nat:=31+2*x.val.str.size+x.name.size+(stepsW x.steps).length
def szX:Nat->Ex->Nat
 | 0,x=>szO x
 | d+1,x=>szO x+(x.args.map (szX d)).sum
theorem szX_step {d:Nat} {x:Ex} (h:RightX d x):szX d x=szO x+(x.args.map (szX (d - 1))).sum:=by
 cases d with
 | zero=>
  have h0:x.args=[]:=h.deep.resolve_right (Nat.lt_irrefl 0);rw [szX,h0]
  rfl
 | succ d=>rfl
theorem lit_sz {x:Ex} (ho:OwnX x) (hk:x.kind=0):(litW x.val).length+5<=szO x:=by
 unfold szO;have hv:=(ho.lit hk).1
 rcases hv with h | ⟨b,h⟩ | ⟨n,h,h1,h2⟩ | ⟨s,h⟩
 ·rw [h];show 3+5<=_;omega
 ·rw [h];cases b
  ·show 5+5<=_;omega
  ·show 4+5<=_;omega
 ·rw [h]
  have h3:=Lib.itoa_length_le n h1 (by omega)
  show (Lib.itoa n).length+5<=_
  omega
 ·rw [h]
  have h3:=escL_len s.data.toList
  show (quoteL s.data.toList).length+5<=31+2*s.size+_+_
  unfold quoteL;rw [List.length_cons,List.length_append,List.length_singleton,size_list s]
  omega
def SzOk (L:LB_) (n:Nat):Prop:=∀ (d:Nat) (x:Ex) (a:Nat),RightX d x->d+1<=n->(pipW L n x a).1.length+5<=szX d x
section
variable {L:LB_} {n:Nat}
theorem op_sz (hP:SzOk L n) {d:Nat} {x:Ex} {a:Nat} (hx:RightX d x) (hn:d+1<=n):(opW L (pipW L n) x a).1.length+3<=szX d x:=by
 have ho:=hx.own;have hw:=szX_step hx
 have br:∀ a',(40::((pipW L n x a').1++[41])).length+3<=szX d x:=fun a'=>by
  have h:=hP d x a' hx hn;rw [List.length_cons,List.length_append,List.length_singleton]
  omega
 unfold opW
 by_cases k0:x.kind=0
 ·rw [if_pos k0]
  have h:=lit_sz ho k0
  show (litW x.val).length+3<=_
  omega
 ·rw [if_neg k0]
  by_cases k1:x.kind=1
  ·rw [if_pos k1]
   show (if x.steps=[] then [46] else stepsW x.steps).length+3<=_
   unfold szO at hw
   split
   ·rw [List.length_singleton];omega
   ·omega
  ·rw [if_neg k1]
   by_cases k2:x.kind=2
   ·rw [if_pos k2]
    show (36::(x.name.data.toList++stepsW x.steps)).length+3<=_
    rw [List.length_cons,List.length_append,<-size_list];unfold szO at hw
    omega
   ·rw [if_neg k2]
    by_cases hA:x.args=[]
    ·rw [if_pos hA]
     by_cases hp:(pickW L a 2).1=1
     ·rw [if_pos hp]
      show x.name.data.toList.length+3<=_
      rw [<-size_list];unfold szO at hw
      omega
     ·rw [if_neg hp]
      exact br _
    ·rw [if_neg hA]
     exact br _
theorem args_sz (hP:SzOk L n) {d:Nat} (hn:d+1<=n):∀ (l:List Ex) (a:Nat),(∀ y ∈ l,RightX d y)->(argsW L (pipW L n) l a).1.length<=(l.map (szX d)).sum
 | [],a,h=>by simp [argsW]
 | y::l,a,h=>by
  have h1:=gap_len L a;have h2:=op_sz hP (a:=(gapW L a).2) (h y (List.mem_cons_self ..)) hn;have h3:=args_sz hP hn l (opW L (pipW L n) y (gapW L a).2).2 (fun z hz=>h z (List.mem_cons_of_mem _ hz));rw [argsW]
  simp only [List.length_append,List.map_cons,List.sum_cons]
  omega
end
theorem pip_sz (L:LB_):∀ n,SzOk L n
 | 0=>fun d x a hx hn=>by omega
 | n+1=>by
  have hP:=pip_sz L n;intro d x a hx hn;have ho:=hx.own;have hw:=szX_step hx;unfold pipW
  by_cases hk:x.kind=3
  ·rw [if_neg (fun h=>h hk)]
   have hname:x.name.data.toList.length+31<=szO x:=by unfold szO;rw [<-size_list];omega
   have call:∀ (l:List Ex) (pre:LB_) (a':Nat),(∀ y ∈ l,y ∈ x.args)->(callW L (pipW L n) x l pre a').1.length<=pre.length+x.name.data.toList.length+(l.map (szX (d - 1))).sum:=fun l pre a' hl=>by
    unfold callW
    simp only [List.length_append]
    by_cases he:l=[]
    ·subst he;simp [argsW]
    ·have hdp:0 < d:=hx.deep.resolve_left (fun e=>by
      cases l with
      | nil=>exact he rfl
      | cons y l=>have:=hl y (List.mem_cons_self ..);rw [e] at this;cases this)
     have h:=args_sz hP (d:=d - 1) (by omega) l a' (fun y hy=>hx.args y (hl y hy))
     omega
   cases hl:x.args.getLast? with
   | none=>
    simp only
    have h:=call [] [] a (fun y hy=>by cases hy)
    simp only [List.map_nil,List.sum_nil,List.length_nil] at h
    omega
   | some y=>
    simp only
    by_cases hp:(pickW L a 3).1=1
    ·rw [if_pos hp]
     have hcat:=last_cat hl
     have hy:y ∈ x.args:=by rw [<-hcat];simp
     have hdp:0 < d:=hx.deep.resolve_left (fun e=>by rw [e] at hy;cases hy);have h1:=hP (d - 1) y (pickW L a 3).2 (hx.args y hy) (by omega);have h2:=gap_len L (pipW L n y (pickW L a 3).2).2;have h3:=gap_len L (gapW L (pipW L n y (pickW L a 3).2).2).2;have h4:=call x.args.dropLast ((pipW L n y (pickW L a 3).2).1++((gapW L (pipW L n y (pickW L a 3).2).2).1++(124::(gapW L (gapW L (pipW L n y (pickW L a 3).2).2).2).1))) (gapW L (gapW L (pipW L n y (pickW L a 3).2).2).2).2 (fun z hz=>by rw [<-hcat];exact List.mem_append_left _ hz)
     have hsum:(x.args.map (szX (d - 1))).sum=(x.args.dropLast.map (szX (d - 1))).sum+szX (d - 1) y:=by
      conv=>lhs;rw [<-hcat]
      rw [List.map_append,List.sum_append]
      simp
     simp only [List.length_append,List.length_cons] at h4
     omega
    ·rw [if_neg hp]
     have h:=call x.args [] (pickW L a 3).2 (fun y hy=>hy)
     simp only [List.length_nil] at h
     omega
  ·rw [if_pos hk]
   have h3:x.kind≠3:=hk;unfold opW
   by_cases k0:x.kind=0
   ·rw [if_pos k0]
    have h:=lit_sz ho k0
    show (litW x.val).length+5<=_
    omega
   ·rw [if_neg k0]
    by_cases k1:x.kind=1
    ·rw [if_pos k1]
     show (if x.steps=[] then [46] else stepsW x.steps).length+5<=_
     unfold szO at hw
     split
     ·rw [List.length_singleton];omega
     ·omega
    ·rw [if_neg k1]
     by_cases k2:x.kind=2
     ·rw [if_pos k2]
      show (36::(x.name.data.toList++stepsW x.steps)).length+5<=_
      rw [List.length_cons,List.length_append,<-size_list];unfold szO at hw
      omega
     ·rcases ho.kind with h | h | h | h
      ·exact absurd h k0
      ·exact absurd h k1
      ·exact absurd h k2
      ·exact absurd h h3
def szNo (x:Nd):Nat:=if x.kind=0 then x.text.size else (if x.kind=1\/x.kind=5 then 30 else 110)+2*x.name.size+x.key.size+szX 6 x.x
def szN:Nat->Nd->Nat
 | 0,x=>szNo x
 | d+1,x=>szNo x+(x.body.map (szN d)).sum+(x.els.map (szN d)).sum
theorem szN_step {d:Nat} {top:Prop} {x:Nd} (h:SoundN d top x):szN d x=szNo x+(x.body.map (szN (d - 1))).sum+(x.els.map (szN (d - 1))).sum:=by
 cases d with
 | zero=>
  obtain ⟨h1,h2⟩:=h.deep.resolve_right (Nat.lt_irrefl _);rw [szN,h1,h2];rfl
 | succ d=>rw [szN,Nat.add_sub_cancel]
def LenS (f:Nat->List Pc × Nat) (n:Nat):Prop:=∀ a,(flatP (f a).1).length<=n
theorem wr_sz {node:Nd->Nat->List Pc × Nat} {m:Nd->Nat}:∀ (l:List Nd),(∀ x ∈ l,LenS (node x) (m x))->LenS (wrW node l) (l.map m).sum
 | [],_,a=>by simp [wrW,flatP]
 | x::l,h,a=>by
  have h1:=h x (List.mem_cons_self ..) a;have h2:=wr_sz l (fun y hy=>h y (List.mem_cons_of_mem _ hy)) (node x a).2;rw [wrW,flatP_app,List.length_append,List.map_cons,List.sum_cons]
  omega
theorem blk_sz {L:LB_} {h:LB_ × Nat} {body rest:Nat->List Pc × Nat} {nb nr:Nat} (hb:LenS body nb) (hr:LenS rest nr):(flatP (blkW L h body rest).1).length<=h.1.length+19+nb+nr:=by
 have h1:=act_len L h.1 h.2;have h2:=hb (actW L h.1 h.2).2;have h3:=hr (body (actW L h.1 h.2).2).2;unfold blkW;rw [flatP_app,flatP_app,List.length_append,List.length_append]
 omega
theorem head_sz (L:LB_) {x:Nd} (a:Nat) (hx:RightX 6 x.x):(headW L x a).1.length<=x.key.size+x.name.size+13+szX 6 x.x:=by
 have h1:=mid_len L x a;have h2:=pip_sz L 7 6 x.x (midW L x a).2 hx (by omega);have h3:=kw_len x.kind;unfold headW
 simp only [List.length_append]
 omega
theorem set_sz (L:LB_) {x:Nd} (a:Nat) (hx:RightX 6 x.x):(setW L x a).1.length<=x.name.size+2+szX 6 x.x:=by
 have h1:=let_len L x.name.data.toList a;have h2:=pip_sz L 7 6 x.x (letW L x.name.data.toList a).2 hx (by omega);rw [<-size_list] at h1;unfold setW
 simp only [List.length_append]
 omega
theorem def_sz (L:LB_) (x:Nd) (a:Nat):(defW L x a).1.length<=10+2*x.name.size:=by
 have h1:=gap_len L a;have h2:=escL_len x.name.data.toList;have h3:=size_list x.name;have h4:defineW.length=6:=rfl;unfold defW quoteL
 simp only [List.length_append,List.length_cons,List.length_nil]
 omega
theorem end_sz (L:LB_):LenS (actW L endW) 22:=fun a=>(act_len L endW a).1
def NdSz (L:LB_) (n:Nat):Prop:=∀ (d:Nat) (top:Prop) (x:Nd),SoundN d top x->2*d+2<=n->LenS (ndW L n x) (szN d x)
def OtSz (L:LB_) (n:Nat):Prop:=∀ (d:Nat) (top:Prop) (x:Nd),SoundN d top x->2*d+1<=n->LenS (otW L n x) (50+(x.els.map (szN (d - 1))).sum)
theorem nodes_sz (L:LB_):∀ n,NdSz L n/\OtSz L n
 | 0=>⟨fun d top x _ h=>by omega,fun d top x _ h=>by omega⟩
 | n+1=>by
  obtain ⟨hN,hO⟩:=nodes_sz L n
  have bodies:∀ (d:Nat) (l:List Nd),(∀ y ∈ l,SoundN (d - 1) False y)->(l=[]\/0 < d/\2*d<=n)->LenS (wrW (ndW L n) l) (l.map (szN (d - 1))).sum:=fun d l hl hd=>
   wr_sz l (fun y hy=>hN (d - 1) False y (hl y hy) (by
    rcases hd with rfl | hd
    ·cases hy
    ·omega))
  refine ⟨fun d top x hx hn a=>?_,fun d top x hx hn a=>?_⟩
  ·have ho:=hx.own
   have hw:=szN_step hx
   have hbd:x.body=[]\/0 < d/\2*d<=n:=by
    rcases hx.deep with h | h
    ·exact .inl h.1
    ·exact .inr ⟨h,by omega⟩
   have hwo:szNo x=if x.kind=0 then x.text.size else (if x.kind=1\/x.kind=5 then 30 else 110)+2*x.name.size+x.key.size+szX 6 x.x:=rfl
   have hr:=hx.right;have hb:=bodies d x.body hx.body hbd;rw [ndW]
   by_cases k0:x.kind=0
   ·rw [if_pos k0] at hwo ⊢
    have h1:=size_list x.text
    simp only [flatP,List.flatMap_cons,List.flatMap_nil,List.append_nil,Pc.flat]
    omega
   ·rw [if_neg k0] at hwo ⊢
    by_cases k1:x.kind=1
    ·rw [if_pos (.inl k1)] at hwo
     rw [if_pos k1];have h1:=act_len L (pipW L 7 x.x a).1 (pipW L 7 x.x a).2;have h2:=pip_sz L 7 6 x.x a hr (by omega)
     omega
    ·rw [if_neg k1]
     by_cases k5:x.kind=5
     ·rw [if_pos (.inr k5)] at hwo
      rw [if_pos k5];have h1:=act_len L (setW L x a).1 (setW L x a).2;have h2:=set_sz L a hr
      omega
     ·rw [if_neg (fun h=>h.elim k1 k5)] at hwo
      rw [if_neg k5]
      by_cases k6:x.kind=6
      ·rw [if_pos k6]
       have h1:=blk_sz (L:=L) (h:=defW L x a) hb (end_sz L);have h2:=def_sz L x a
       omega
      ·rw [if_neg k6]
       have h1:=blk_sz (L:=L) (h:=headW L x a) hb (hO d top x hx (by omega));have h2:=head_sz L a hr
       omega
  ·have ed:x.els=[]\/0 < d/\2*d<=n:=by
    rcases hx.deep with h | h
    ·exact .inl h.2
    ·exact .inr ⟨h,by omega⟩
   have eb:=bodies d x.els hx.els ed;have h4:elseW.length=4:=rfl
   have fin:∀ a0,(flatP (blkW L (elseW,a0) (wrW (ndW L n) x.els) (actW L endW)).1).length<=50+(x.els.map (szN (d - 1))).sum:=fun a0=>by
    have h1:=blk_sz (L:=L) (h:=(elseW,a0)) eb (end_sz L)
    simp only at h1
    omega
   rw [otW]
   split
   ·have h1:=end_sz L a
    omega
   ·next y he=>
    have hd0:0 < d/\2*d<=n:=ed.resolve_left (by rw [he];simp);have hy:SoundN (d - 1) False y:=hx.els y (by rw [he];exact List.mem_cons_self ..)
    split
    ·next hkk=>
     split
     ·have hg:=gap_len L (pickW L a 2).2
      have hh:=head_sz L (gapW L (pickW L a 2).2).2 hy.right
      have hyb:y.body=[]\/0 < d - 1/\2*(d - 1)<=n:=by
       rcases hy.deep with h | h
       ·exact .inl h.1
       ·exact .inr ⟨h,by omega⟩
      have hb:=bodies (d - 1) y.body hy.body hyb;have h1:=blk_sz (L:=L) (h:=(elseW++((gapW L (pickW L a 2).2).1++(headW L y (gapW L (pickW L a 2).2).2).1),(headW L y (gapW L (pickW L a 2).2).2).2)) hb (hO (d - 1) False y hy (by omega));have hw:=szN_step hy
      have hwo:szNo y=110+2*y.name.size+y.key.size+szX 6 y.x:=by
       unfold szNo;rw [if_neg (by omega),if_neg (by omega)]
      rw [he,List.map_cons,List.map_nil,List.sum_cons,List.sum_nil]
      simp only [List.length_append] at h1
      omega
     ·have:=fin (pickW L a 2).2
      rw [he] at this ⊢
      exact this
    ·have:=fin a
     rw [he] at this ⊢
     exact this
   ·exact fin a
theorem szX_low (d:Nat) (x:Ex):31<=szX d x:=by
 cases d <;>(unfold szX szO;omega)
theorem sum_le_sum {α:Type} {f g:α->Nat}:∀ {l:List α},(∀ x ∈ l,f x<=g x)->(l.map f).sum<=(l.map g).sum
 | [],_=>Nat.le_refl _
 | x::l,h=>by
  have h1:=h x (List.mem_cons_self ..);have h2:=sum_le_sum (l:=l) (fun y hy=>h y (List.mem_cons_of_mem _ hy))
  simp only [List.map_cons,List.sum_cons]
  omega
theorem szX_up:∀ (d:Nat) (x:Ex),szX d x<=szX (d+1) x
 | 0,x=>by unfold szX;omega
 | d+1,x=>by
  have h:=sum_le_sum (l:=x.args) (fun y _=>szX_up d y);rw [szX,szX]
  omega
theorem szX_push (d:Nat) (y x:Ex):szX d (y.push x)<=szX d y+szX d x:=by
 have ho:szO (y.push x)=szO y:=rfl
 cases d with
 | zero=>rw [szX,szX,ho];omega
 | succ d=>
  have h:=szX_up d x;have ha:(y.push x).args=y.args++[x]:=rfl;rw [szX,ho,ha,List.map_append,List.sum_append,show szX (d+1) y=szO y+(y.args.map (szX d)).sum from rfl]
  simp only [List.map_cons,List.map_nil,List.sum_cons,List.sum_nil]
  omega
theorem szX_nil {d:Nat} {x:Ex} (h:x.args=[]):szX d x=szO x:=by
 cases d with
 | zero=>rfl
 | succ d=>rw [szX,h];rfl
theorem szX_zero (d:Nat):szX d Ex.zero=31:=szX_nil rfl
theorem szX_call (d:Nat) (n:ByteArray):szX d (Ex.call n [])=31+n.size:=by
 rw [szX_nil rfl]
 show 31+2*0+n.size+0=_
 omega
theorem szX_lit (d:Nat) (t:T):szX d (Ex.lit t)=31+2*t.str.size:=by
 rw [szX_nil rfl]
 show 31+2*t.str.size+0+0=_
 omega
theorem numV_str {l:LB_} {t:T} (h:numV l=some t):t.str.size=0:=by
 unfold numV at h
 split at h
 ·next t2 ht=>
  split at h
  ·next hk=>
   injection h with h
   subst h;unfold parseT at ht
   split at ht
   ·injection ht with ht;subst ht;rfl
   ·split at ht
    ·injection ht with ht;subst ht;rfl
    ·split at ht
     ·injection ht with ht;subst ht;rfl
     ·split at ht
      ·obtain ⟨n, -,hn⟩:=Option.map_eq_some_iff.1 ht
       subst hn;rfl
      ·injection ht with ht;subst ht;exact absurd (show (3:Int)=2 from hk) (by decide)
  ·cases h
 ·cases h
theorem name_sz (l:LB_):(nameT l).size=nameK l:=by
 have:=nameK_le l
 unfold nameT;rw [bs_size,List.length_take]
 omega
theorem steps_sz:∀ (n:Nat) (l:LB_),(stepsW (stepsL n l).1).length+(stepsL n l).2.length<=l.length
 | 0,l=>by rw [stepsL];simp [stepsW]
 | n+1,l=>by
  by_cases h:∃ c r,l=46::c::r/\nletB c=true
  ·obtain ⟨c,r,rfl,hc⟩:=h
   rw [stepsL_cons hc];have h1:=steps_sz n (nameD (c::r));have h2:=nameD_len (c::r);have h3:=name_sz (c::r);rw [size_list] at h3
   simp only [stepsW_cons,List.length_cons,List.length_append] at*
   omega
  ·rw [stepsL_stop _ (fun c r e=>by
    cases hb:nletB c with
    | false=>rfl
    | true=>exact absurd ⟨c,r,e,hb⟩ h)]
   simp [stepsW]
theorem plain_sz {r:Rd} {q:(Ex × Bool) × Rd} (d:Nat) (h:plainOp r=some q) (ht:q.1.2=true):szX d q.1.1+32*q.2.s.length<=32*r.s.length:=by
 have hk:=skip_len r.s;have z0:=szX_zero d;unfold plainOp at h
 cases hs:skipB r.s with
 | nil=>
  rw [hs] at h
  simp only [Option.some.injEq] at h
  subst h
  cases ht
 | cons c l=>
  rw [hs] at h hk
  simp only [List.length_cons] at h hk
  have fails:∀ (s:LB_) (e:Int),szX d Ex.zero+32*((r.go s).fail e).s.length<=32*r.s.length:=fun s e=>by
   rw [z0];simp only [Rd.fail,List.length_nil];omega
  split at h
  ·split at h
   ·next t rest hu=>
    simp only [Option.some.injEq] at h
    subst h;have h1:=unq_len hu
    simp only [List.length_cons] at h1
    show szX d (Ex.lit (tS (bs t)))+32*rest.length<=_
    rw [szX_lit,show (tS (bs t)).str=bs t from rfl,bs_size]
    omega
   ·simp only [Option.some.injEq] at h
    subst h
    exact fails _ _
  ·split at h
   ·split at h
    ·next t hn=>
     simp only [Option.some.injEq] at h
     subst h
     have h9:1<=numK (c::l):=by unfold numK;omega
     show szX d (Ex.lit t)+32*((c::l).drop (numK (c::l))).length<=_
     rw [szX_lit,numV_str hn,List.length_drop,List.length_cons]
     omega
    ·simp only [Option.some.injEq] at h
     subst h
     exact fails _ _
   ·split at h
    ·split at h
     ·next hst=>
      simp only [Option.some.injEq] at h
      subst h;have h9:=steps_len (l.length+1) (c::l);rw [hst] at h9
      simp only [List.length_cons,List.length_nil] at h9
      show szX d (.mk 1 T.zero ⟨#[]⟩ [] [])+32*(List.drop 1 _).length<=_
      rw [szX_nil rfl,List.length_drop]
      show 31+2*0+0+0+_<=_
      omega
     ·next s st rest hst=>
      simp only [Option.some.injEq] at h
      subst h;have h9:=steps_sz (l.length+1) (c::l);have h8:=steps_len (l.length+1) (c::l);rw [hst] at h9 h8
      simp only [List.length_cons] at h9 h8
      show szX d (.mk 1 T.zero ⟨#[]⟩ (s::st) [])+32*rest.length<=_
      rw [szX_nil rfl]
      show 31+2*0+0+(stepsW (s::st)).length+_<=_
      omega
    ·split at h
     ·split at h
      ·simp only [Option.some.injEq] at h
       subst h
       exact fails _ _
      ·simp only [Option.some.injEq] at h
       subst h;have h9:=steps_sz (l.length+1) (nameD l);have h8:=nameD_len l;have h7:=name_sz l
       show szX d (.mk 2 T.zero (nameT l) (stepsL (l.length+1) (nameD l)).1 [])+32*(stepsL (l.length+1) (nameD l)).2.length<=_
       rw [szX_nil rfl]
       show 31+2*0+(nameT l).size+(stepsW (stepsL (l.length+1) (nameD l)).1).length+_<=_
       omega
     ·split at h
      ·cases h
      ·split at h
       ·next hc=>
        have h9:=nameD_len (c::l)
        have h8:0 < nameK (c::l):=by rw [nameK,if_pos hc];omega
        simp only [List.length_cons] at h9
        split at h
        ·simp only [Option.some.injEq] at h
         subst h
         show szX d (Ex.lit (tB true))+32*(nameD (c::l)).length<=_
         rw [szX_lit,show (tB true).str.size=0 from rfl]
         omega
        ·split at h
         ·simp only [Option.some.injEq] at h
          subst h
          show szX d (Ex.lit (tB false))+32*(nameD (c::l)).length<=_
          rw [szX_lit,show (tB false).str.size=0 from rfl]
          omega
         ·split at h
          ·simp only [Option.some.injEq] at h
           subst h
           show szX d Ex.zero+32*(nameD (c::l)).length<=_
           omega
          ·simp only [Option.some.injEq] at h
           subst h
           cases ht
       ·simp only [Option.some.injEq] at h
        subst h
        cases ht
theorem sz_all (n:Nat):(∀ (d:Nat) (r:Rd),(operandF n r).1.2=true->szX d (operandF n r).1.1+32*(operandF n r).2.s.length<=32*r.s.length)/\(∀ (d:Nat) (r:Rd),szX d (commandF n r).1+32*(commandF n r).2.s.length<=32*r.s.length+31)/\(∀ (d:Nat) (x:Ex) (r:Rd),szX d (argsF n x r).1+32*(argsF n x r).2.s.length<=szX d x+32*r.s.length)/\(∀ (d:Nat) (r:Rd),szX d (pipeF n r).1+32*(pipeF n r).2.s.length<=32*r.s.length+31)/\(∀ (d:Nat) (x:Ex) (r:Rd),szX d (barsF n x r).1+32*(barsF n x r).2.s.length<=szX d x+32*r.s.length):=by
 induction n with
 | zero=>
  refine ⟨fun d r e=>?_,fun d r=>?_,fun d x r=>?_,fun d r=>?_,fun d x r=>?_⟩
  ·rw [operandF] at e;cases e
  ·rw [commandF];have:=szX_zero d;simp only;omega
  ·rw [argsF];exact Nat.le_refl _
  ·rw [pipeF];have:=szX_zero d;simp only;omega
  ·rw [barsF];exact Nat.le_refl _
 | succ n ih=>
  obtain ⟨ho,hc,ha,hp,hb⟩:=ih;have hl:=(le_all n).1
  refine ⟨fun d r e=>?_,fun d r=>?_,fun d x r=>?_,fun d r=>?_,fun d x r=>?_⟩
  ·have z0:=szX_zero d
   rw [operandF] at e ⊢
   cases hpl:plainOp r with
   | some q=>
    rw [hpl] at e
    exact plain_sz d hpl e
   | none=>
    obtain ⟨l,hs⟩:=plain_none hpl;have hk:=skip_len r.s;rw [hs,List.length_cons] at hk
    simp only
    by_cases hd:16 < r.deep+1
    ·rw [if_pos hd]
     simp only [Rd.fail,List.length_nil]
     omega
    ·rw [if_neg hd,hs,List.drop_succ_cons,List.drop_zero]
     have h1:=hp d ⟨l,r.deep+1,r.bad⟩
     simp only at h1
     have hk2:=skip_len (pipeF n ⟨l,r.deep+1,r.bad⟩).2.s
     split
     ·next q hq=>
      rw [hq,List.length_cons] at hk2
      simp only
      omega
     ·simp only [Rd.fail,List.length_nil]
      omega
  ·have z0:=szX_zero d
   rw [commandF];have h1:=(hl r).1.len;have h2:=ho d r
   split
   ·next e=>have:=h2 e;simp only;omega
   ·split
    ·simp only [Rd.fail,List.length_nil];omega
    ·have h3:=ha d (Ex.call (nameT (operandF n r).2.s) []) ((operandF n r).2.go (nameD (operandF n r).2.s))
     have h4:=nameD_len (operandF n r).2.s;rw [szX_call,name_sz] at h3;have h5:((operandF n r).2.go (nameD (operandF n r).2.s)).s=nameD (operandF n r).2.s:=rfl;rw [h5] at h3
     omega
  ·rw [argsF]
   have h1:=(hl r).1.len;have h2:=ho d r
   split
   ·next e=>
    have h3:=ha d (x.push (operandF n r).1.1) (operandF n r).2;have h4:=szX_push d x (operandF n r).1.1
    have:=h2 e
    omega
   ·split
    ·simp only;omega
    ·next hk=>
     have h3:=ha d (x.push (Ex.call (nameT (operandF n r).2.s) [])) ((operandF n r).2.go (nameD (operandF n r).2.s));have h4:=nameD_len (operandF n r).2.s;have h6:=szX_push d x (Ex.call (nameT (operandF n r).2.s) []);rw [szX_call,name_sz] at h6;have h5:((operandF n r).2.go (nameD (operandF n r).2.s)).s=nameD (operandF n r).2.s:=rfl;rw [h5] at h3
     omega
  ·rw [pipeF]
   have h1:=hc d r;have h2:=hb d (commandF n r).1 (commandF n r).2
   omega
  ·rw [barsF]
   have hk:=skip_len r.s;have z0:=szX_zero d;have z1:=szX_low d x
   split
   ·next l hl2=>
    rw [hl2,List.length_cons] at hk;have h1:=hc d (r.go l);have h9:(r.go l).s=l:=rfl;rw [h9] at h1
    simp only
    split
    ·simp only [Rd.fail,List.length_nil];omega
    ·have h2:=hb d ((commandF n (r.go l)).1.push x) (commandF n (r.go l)).2
     have h3:=szX_push d (commandF n (r.go l)).1 x
     omega
   ·have h9:(r.go (skipB r.s)).s=skipB r.s:=rfl
    simp only [h9]
    omega
theorem allF_sz (d:Nat) (s:LB_):szX d (allF s).1<=32*s.length+31:=by
 have h:=(sz_all (fuelX s)).2.2.2.1 d ⟨s,0,0⟩;have z0:=szX_zero d
 simp only at h
 unfold allF
 simp only
 repeat' split
 all_goals (simp only;omega)
def tkc (t:Tok):Nat:=t.s.length+if t.act then 4 else 0
def tkcs (l:List Tok):Nat:=(l.map tkc).sum
theorem tkcs_cons (t:Tok) (l:List Tok):tkcs (t::l)=tkc t+tkcs l:=by simp [tkcs]
theorem tkcs_app (l m:List Tok):tkcs (l++m)=tkcs l+tkcs m:=by simp [tkcs]
theorem txt_cost (s:LB_) (n:Nat):tkcs (txt s n)=s.length:=by
 unfold txt
 split
 ·next h=>rw [h];rfl
 ·simp [tkcs,tkc]
theorem actn_cost (s:LB_) (n:Nat):tkcs (actn s n)<=s.length+4:=by
 unfold actn
 split
 ·simp [tkcs]
 ·simp [tkcs,tkc]
theorem split_cost:∀ (n:Nat) (s:LB_) (i:Nat) (cut:Bool) (toks:List Tok),splitM n s i cut=some toks->tkcs toks<=s.length
 | 0,s,i,cut,toks,h=>by
  rw [splitM] at h
  injection h with h
  subst h
  exact Nat.zero_le _
 | n+1,s,i,cut,toks,h=>by
  rw [splitM] at h
  split at h
  ·injection h with h
   subst h
   exact Nat.zero_le _
  ·split at h
   ·next hf=>
    injection h with h
    subst h;rw [txt_cost]
    exact ahead_le cut s
   ·next o hf=>
    have hb:=find2_bound hf
    split at h
    ·cases h
    ·next e hc=>
     have he:=clos_bound _ (Nat.le_refl _) hc;rw [List.length_drop] at he;obtain ⟨r,hr,rfl⟩:=Option.map_eq_some_iff.1 h;have ih:=split_cost n _ _ _ r hr;rw [List.length_drop] at ih;have h1:=behind_le ((s.drop (o+2)).take e) (ahead cut (s.take o));have h2:=ahead_le cut (s.take o);have h3:=body_le ((s.drop (o+2)).take e);have h4:=actn_cost (body ((s.drop (o+2)).take e)) (i+o);rw [List.length_take] at h2 h3;rw [List.length_drop] at h3;rw [tkcs_app,tkcs_app,txt_cost]
     omega
theorem varL_sz (s:LB_):(varL s).1.size+(varL s).2.1.length<=s.length:=by
 have hk:=skip_len s;unfold varL
 split
 ·next l hl=>
  rw [hl,List.length_cons] at hk;have h1:=nameD_len l;have h2:=skip_len (nameD l);have h3:=name_sz l
  simp only
  omega
 ·exact Nat.zero_le _
theorem setL_sz (s:LB_):(setL s).1.size+(setL s).2.1.length<=s.length:=by
 have h:=varL_sz s;unfold setL
 simp only
 split
 ·split
  ·next l hl=>
   rw [hl] at h
   simp only [List.length_cons] at h
   simp only
   omega
  ·next l hl=>exact h
 ·exact h
theorem mpipe_sz (d:Nat) (m:Mk) (s:LB_):szX d (mpipe m s).1<=32*s.length+31:=allF_sz d s
theorem fail_cost (m:Mk) (e:Int):tkcs (m.fail e).rest<=tkcs m.rest:=Nat.zero_le _
theorem mpipe_cost (m:Mk) (s:LB_):tkcs (mpipe m s).2.rest<=tkcs m.rest:=by
 unfold mpipe
 simp only
 split
 ·exact Nat.le_refl _
 ·exact fail_cost _ _
def Nd.bare (x:Nd):Prop:=x.body=[]/\x.els=[]
theorem head_read (w s:LB_) (m:Mk):szNo (headF w s m).1<=32*(s.length+6)/\(headF w s m).1.bare/\tkcs (headF w s m).2.rest<=tkcs m.rest:=by
 have blk:∀ (k:Int) (x:Ex) (ky nm:ByteArray) (z:Nat),(k=2\/k=3\/k=4)->ky.size+nm.size+z<=s.length->szX 6 x<=32*z+31->szNo (.mk k ⟨#[]⟩ x ky nm [] [])<=32*(s.length+6):=fun k x ky nm z hk h1 h2=>by
  unfold szNo
  show (if k=0 then _ else (if k=1\/k=5 then 30 else 110)+2*nm.size+ky.size+szX 6 x)<=_
  rw [if_neg (by omega),if_neg (by omega)]
  omega
 have e0:(⟨#[]⟩:ByteArray).size=0:=rfl;unfold headF
 split
 ·exact ⟨blk 2 _ _ _ s.length (.inl rfl) (by rw [e0];omega) (mpipe_sz 6 m s),⟨rfl,rfl⟩,mpipe_cost m s⟩
 ·split
  ·exact ⟨blk 3 _ _ _ s.length (.inr (.inl rfl)) (by rw [e0];omega) (mpipe_sz 6 m s),⟨rfl,rfl⟩,mpipe_cost m s⟩
  ·split
   ·simp only
    refine ⟨?_,⟨rfl,rfl⟩,?_⟩
    ·have h1:=allF_sz 0 s
     have h2:31+2*(allF s).1.val.str.size<=szX 0 (allF s).1:=by show _<=szO _;unfold szO;omega
     have h3:=szX_zero 6;unfold szNo
     show (if (6:Int)=0 then _ else (if (6:Int)=1\/(6:Int)=5 then 30 else 110)+2*(allF s).1.val.str.size+(⟨#[]⟩:ByteArray).size+szX 6 Ex.zero)<=_
     rw [if_neg (by decide),if_neg (by decide)]
     omega
    ·split
     ·exact fail_cost _ _
     ·exact Nat.le_refl _
   ·simp only
    have hv:=varL_sz s;have hz:=setL_sz s
    split
    ·next l hv1 hv2=>
     rw [hv2,List.length_cons] at hv;have hz2:=setL_sz l
     split
     ·exact ⟨blk 4 _ _ _ (setL l).2.1.length (.inr (.inr rfl)) (by omega) (mpipe_sz 6 m _),⟨rfl,rfl⟩,mpipe_cost m _⟩
     ·exact ⟨blk 4 _ _ _ s.length (.inr (.inr rfl)) (by rw [e0];omega) (mpipe_sz 6 m s),⟨rfl,rfl⟩,mpipe_cost m s⟩
    ·split
     ·exact ⟨blk 4 _ _ _ (setL s).2.1.length (.inr (.inr rfl)) (by rw [e0];omega) (mpipe_sz 6 m _),⟨rfl,rfl⟩,mpipe_cost m _⟩
     ·exact ⟨blk 4 _ _ _ s.length (.inr (.inr rfl)) (by rw [e0];omega) (mpipe_sz 6 m s),⟨rfl,rfl⟩,mpipe_cost m s⟩
theorem szN_up:∀ (d:Nat) (x:Nd),szN d x<=szN (d+1) x
 | 0,x=>by rw [szN,szN];omega
 | d+1,x=>by
  have h1:=sum_le_sum (l:=x.body) (fun y _=>szN_up d y);have h2:=sum_le_sum (l:=x.els) (fun y _=>szN_up d y);rw [szN,szN]
  omega
theorem szN_body {x:Nd} (hx:x.bare) (d:Nat) (b:List Nd):szN d (x.setBody b)<=szNo x+(b.map (szN d)).sum:=by
 have ho:szNo (x.setBody b)=szNo x:=rfl
 cases d with
 | zero=>rw [szN,ho];omega
 | succ d=>
  have hb:=sum_le_sum (l:=b) (fun y _=>szN_up d y);rw [szN,ho,show (x.setBody b).body=b from rfl,show (x.setBody b).els=[] from hx.2]
  simp only [List.map_nil,List.sum_nil]
  omega
theorem szN_els {x:Nd} (hx:x.els=[]) (d:Nat) (b:List Nd):szN d (x.setEls b)<=szN d x+(b.map (szN d)).sum:=by
 have ho:szNo (x.setEls b)=szNo x:=rfl
 cases d with
 | zero=>rw [szN,szN,ho];omega
 | succ d=>
  have hb:=sum_le_sum (l:=b) (fun y _=>szN_up d y);rw [szN,ho,show (x.setEls b).body=x.body from rfl,show (x.setEls b).els=b from rfl,szN,hx]
  simp only [List.map_nil,List.sum_nil]
  omega
theorem word_sz (s:LB_):(wordL s).length+(nameD s).length=s.length:=by
 have h1:=nameK_le s;have h2:=nameD_len s;unfold wordL;rw [List.length_take]
 omega
theorem sum_snoc (f:Nd->Nat) (l:List Nd) (x:Nd):((l++[x]).map f).sum=(l.map f).sum+f x:=by simp
theorem szN_leaf (d:Nat) {x:Nd} (h:x.bare):szN d x=szNo x:=by
 cases d with
 | zero=>rfl
 | succ d=>rw [szN,h.1,h.2];rfl
theorem szNo_act {k:Int} (hk:k=1\/k=5) (x:Ex) (nm:ByteArray):szNo (.mk k ⟨#[]⟩ x ⟨#[]⟩ nm [] [])=30+2*nm.size+szX 6 x:=by
 unfold szNo
 show (if k=0 then _ else (if k=1\/k=5 then 30 else 110)+2*nm.size+0+szX 6 x)=_
 rw [if_neg (by omega),if_pos hk]
 omega
theorem sz_read (n:Nat):(∀ (d:Nat) (out:List Nd) (m:Mk),((nodesF n out m).1.out.map (szN d)).sum+32*tkcs (nodesF n out m).2.rest+32*((nodesF n out m).1.stop.length+(nodesF n out m).1.rest.length)<=(out.map (szN d)).sum+32*tkcs m.rest)/\(∀ (d:Nat) (w s:LB_) (m:Mk),szN d (blockF n w s m).1+32*tkcs (blockF n w s m).2.rest<=32*tkcs m.rest+32*(s.length+6)):=by
 induction n with
 | zero=>
  refine ⟨fun d out m=>?_,fun d w s m=>?_⟩
  ·rw [nodesF];simp only [List.length_nil];omega
  ·rw [blockF];simp only;rw [szN_leaf d ⟨rfl,rfl⟩,show szNo Nd.zero=0 from rfl];omega
 | succ n ih=>
  obtain ⟨hn,hb⟩:=ih
  refine ⟨fun d out m=>?_,fun d w s m=>?_⟩
  ·rw [nodesF]
   split
   ·simp only [List.length_nil];omega
   ·next t ts hr=>
    rw [hr,tkcs_cons];have hw:=word_sz t.s
    simp only
    split
    ·next ha=>
     have hc:tkc t=t.s.length:=by unfold tkc;rw [if_neg (by rw [ha];decide)];rfl
     have h1:=hn d (out++[.mk 0 (bs t.s) Ex.zero ⟨#[]⟩ ⟨#[]⟩ [] []]) ⟨ts,m.deep,m.bad⟩;rw [sum_snoc,szN_leaf d ⟨rfl,rfl⟩,show szNo (.mk 0 (bs t.s) Ex.zero ⟨#[]⟩ ⟨#[]⟩ [] [])=(bs t.s).size from rfl,bs_size] at h1
     simp only at h1
     omega
    ·next ha=>
     have hc:tkc t=t.s.length+4:=by unfold tkc;rw [if_pos (by simpa using ha)]
     split
     ·simp only
      omega
     ·split
      ·next hk=>
       have h2:2<=(wordL t.s).length:=by rcases hk with e | e | e | e <;>rw [e] <;>decide
       have h1:=hb d (wordL t.s) (nameD t.s) ⟨ts,m.deep,m.bad⟩;have h3:=hn d (out++[(blockF n (wordL t.s) (nameD t.s) ⟨ts,m.deep,m.bad⟩).1]) (blockF n (wordL t.s) (nameD t.s) ⟨ts,m.deep,m.bad⟩).2;rw [sum_snoc] at h3
       simp only at h1
       omega
      ·split
       ·have h1:=mpipe_sz 6 ⟨ts,m.deep,m.bad⟩ (setL t.s).2.1
        have h2:=mpipe_cost ⟨ts,m.deep,m.bad⟩ (setL t.s).2.1;have h4:=setL_sz t.s;have h3:=hn d (out++[.mk 5 ⟨#[]⟩ (mpipe ⟨ts,m.deep,m.bad⟩ (setL t.s).2.1).1 ⟨#[]⟩ (setL t.s).1 [] []]) (mpipe ⟨ts,m.deep,m.bad⟩ (setL t.s).2.1).2;rw [sum_snoc,szN_leaf d ⟨rfl,rfl⟩,szNo_act (.inr rfl)] at h3
        simp only at h2
        omega
       ·have h1:=mpipe_sz 6 ⟨ts,m.deep,m.bad⟩ t.s
        have h2:=mpipe_cost ⟨ts,m.deep,m.bad⟩ t.s;have h3:=hn d (out++[.mk 1 ⟨#[]⟩ (mpipe ⟨ts,m.deep,m.bad⟩ t.s).1 ⟨#[]⟩ ⟨#[]⟩ [] []]) (mpipe ⟨ts,m.deep,m.bad⟩ t.s).2;rw [sum_snoc,szN_leaf d ⟨rfl,rfl⟩,szNo_act (.inl rfl),show (⟨#[]⟩:ByteArray).size=0 from rfl] at h3
        simp only at h2
        omega
  ·rw [blockF]
   simp only
   split
   ·rw [szN_leaf d ⟨rfl,rfl⟩,show szNo Nd.zero=0 from rfl]
    have:=fail_cost ⟨m.rest,m.deep+1,m.bad⟩ 5
    simp only at this ⊢
    omega
   ·obtain ⟨h1,h2,h3⟩:=head_read w s ⟨m.rest,m.deep+1,m.bad⟩
    simp only at h3
    obtain ⟨H,hH⟩:∃ z,z=headF w s ⟨m.rest,m.deep+1,m.bad⟩:=⟨_,rfl⟩;rw [<-hH] at h1 h2 h3 ⊢;have h4:=hn d [] H.2;obtain ⟨B,hB⟩:∃ z,z=nodesF n [] H.2:=⟨_,rfl⟩;rw [<-hB] at h4 ⊢
    simp only [List.map_nil,List.sum_nil] at h4
    have h5:=szN_body h2 d B.1.out;have h6:(H.1.setBody B.1.out).els=[]:=h2.2;have h7:=word_sz (skipB B.1.rest);have h8:=skip_len B.1.rest
    split
    ·next hc=>
     obtain ⟨c1, -,c3⟩:=hc;have h9:=hb d ifW (nameD (skipB B.1.rest)) B.2;rw [c1,show elseW.length=4 from rfl] at h4;rw [c3,show ifW.length=2 from rfl] at h7;have h10:=szN_els h6 d [(blockF n ifW (nameD (skipB B.1.rest)) B.2).1]
     simp only [List.map_cons,List.map_nil,List.sum_cons,List.sum_nil] at h10
     show szN d ((H.1.setBody B.1.out).setEls [(blockF n ifW (nameD (skipB B.1.rest)) B.2).1])+32*tkcs (blockF n ifW (nameD (skipB B.1.rest)) B.2).2.rest<=_
     omega
    ·split
     ·have h9:=hn d [] B.2
      simp only [List.map_nil,List.sum_nil] at h9
      have h10:=szN_els h6 d (nodesF n [] B.2).1.out
      have h11:∀ (b:Prop) [Decidable b],tkcs (if b then (nodesF n [] B.2).2.fail 21 else (nodesF n [] B.2).2).up.rest<=tkcs (nodesF n [] B.2).2.rest:=fun b _=>by
       split
       ·exact Nat.zero_le _
       ·exact Nat.le_refl _
      have h12:=h11 ((nodesF n [] B.2).1.stop≠endW\/skipB (nodesF n [] B.2).1.rest≠[])
      simp only
      omega
     ·have h11:∀ (b:Prop) [Decidable b],tkcs (if b then B.2.fail 21 else B.2).up.rest<=tkcs B.2.rest:=fun b _=>by
       split
       ·exact Nat.zero_le _
       ·exact Nat.le_refl _
      have h12:=h11 (B.1.stop≠endW\/skipB B.1.rest≠[])
      simp only
      omega
theorem parse_sz {s:LB_} {l:List Nd} (d:Nat) (h:parseF s=(l,0)):(l.map (szN d)).sum<=32*s.length:=by
 unfold parseF at h
 split at h
 ·injection h with h1 h2
  subst h1
  exact Nat.zero_le _
 ·split at h
  ·injection h with h1 h2
   subst h1
   exact Nat.zero_le _
  ·next toks ht=>
   have h1:=split_cost _ _ _ _ _ ht;have h2:=(sz_read (fuelN toks)).1 d [] ⟨toks,0,0⟩
   simp only [List.map_nil,List.sum_nil] at h2
   simp only at h
   repeat' split at h
   all_goals (injection h with h3 h4;rw [<-h3];first | exact Nat.zero_le _ | omega)
theorem write_short {s:LB_} {l:List Nd} (h:parseF s=(l,0)) (hs:s.length<=2000) {top:Prop} (hl:∀ y ∈ l,SoundN 5 top y) (L:LB_) (a:Nat):(flatP (wrW (ndW L 12) l a).1).length<=65536:=by
 have h1:=parse_sz 5 h;have h2:=wr_sz (node:=ndW L 12) (m:=szN 5) l (fun x hx=>(nodes_sz L 12).1 5 top x (hl x hx) (by omega)) a
 omega
end Go.Proofs.YtnblmhfgmehnnaaGreatDoor
namespace Go.Proofs.YtnblmhfgmehnnaaGreatDoor
open Go.RowKit Go.Lib
attribute [local go_sem ↓] Go.wp_at_zero Go.wp_at_succ
theorem parse_bad {s:LB_} (h:(parseF s).2≠0):(parseF s).1=[]:=by
 have key:∀ (M:Mk) (o:List Nd),(if M.bad=0 then (o,(0:Int)) else ([],M.bad)).2≠0->(if M.bad=0 then (o,(0:Int)) else ([],M.bad)).1=[]:=fun M o h=>by
  by_cases hb:M.bad=0
  ·rw [if_pos hb] at h;exact absurd rfl h
  ·rw [if_neg hb]
 unfold parseF at h ⊢
 split
 ·rfl
 ·next h1=>
  rw [if_neg h1] at h
  split
  ·rfl
  ·next toks ht=>
   rw [ht] at h
   exact key _ _ h
theorem reads07 {w:World} (s:ByteArray) (A:OA_) (L:LB_) (k:Nat) (hL:RepU w A L) (hl:L.length<=9223372036854775807) (hss:s.size<=140737488351232) (hm:MaxL w) (hv:ScalV w):
  Calls Tryz.prog 4 #[.string s,.slice A L.length k] w fun e w'=>e=.returned (.bool true)/\Below w.heap.size w w':=by
 have HM:=h_ hm;have HV:=h_ hv;have HL:=h_ hL;have HCW:=h_ (fun (W:World) (hb:Below w.heap.size w W)=>tawake7 W (hm.keep hb) (hv.keep hb));clear hm hv hL
 go_enter Tryz.func4,Tryz.ntmps4
 by_cases c1:s.size<=2000
 ·have d1:decide ((s.size:Int)>2000)=false:=decide_eq_false (by omega)
  by_cases c2:L.length<=200
  ·have d2:decide ((L.length:Int)>200)=false:=decide_eq_false (by omega)
   have CP:=tParse s w (by omega) HM.out HV.out;have HCP:=h_ CP;clear CP;go_wp2_with fail
   refine HCP.out.mono ?_
   rintro e w1 ⟨a1,k1,rfl,hx1,hrm1,hb1⟩;have HB1:=h_ hb1;have HX1:=h_ hx1;have HRM1:=h_ hrm1;clear hb1 hx1 hrm1 HCP;obtain ⟨l,hl1⟩:∃ z,z=(parseF s.data.toList).1:=⟨_,rfl⟩;obtain ⟨b,hb1⟩:∃ z,z=(parseF s.data.toList).2:=⟨_,rfl⟩;have HP:=h_ (show parseF s.data.toList=(l,b) from by rw [hl1,hb1]);have HBAD:=h_ (show b≠0->l=[] from fun h=>by rw [hl1];exact parse_bad (by rw [<-hb1];exact h));rw [<-hl1] at HX1 HRM1 ⊢;rw [<-hb1];clear hl1 hb1
   by_cases hb0:b=0
   ·subst hb0
    clear HBAD;have HC1:=h_ c1;have HC2:=h_ c2;have h264:=HRM1.out.2.2;go_wp2_with fail
    refine (tfroms l w1 w1 _ a1 k1 HX1.out HRM1.out (Below.refl _ _)).mono ?_
    rintro e w2 ⟨a2,k2,rfl,hx2,hrm2,hb2⟩;have HX2:=h_ (show RepNs w2 (fun b=>b < w2.heap.size) a2 l from hx2.mono (fun b _ h=>h) (fun _ _ _ _=>rfl));have HRM2:=h_ hrm2;have HB2:=h_ (Below.next HB1.out hb2);clear hx2 hrm2 hb2;go_wp2_with fail
    refine (tright7l HX2.out HRM2.out w2 (Below.refl _ _)).mono ?_
    rintro e w3 ⟨r,rfl,hb3,hr⟩;have HB23:=h_ hb3;have HB3:=h_ (Below.next HB2.out hb3);have HR:=h_ hr;clear hb3 hr
    cases r with
    | false=>
     clear HR;go_wp2_with fail
     refine (HCW.out _ HB3.out).mono ?_
     rintro e w4 ⟨rfl,hb4⟩;go_wp2_with fail;go_ret
     exact ⟨rfl,Below.next HB3.out hb4⟩
    | true=>
     have HR2:=h_ (HR.out (by first | trivial | rfl));clear HR;have HSG:=h_ (stAt_new (c:=k) (HL.out.keep HB3.out) HC2.out);have HBA:=h_ (HB23.out.alloc HB23.out.size (.cells #[.slice A L.length k,.int .i64 0] 28));have HBW:=h_ (HB3.out.alloc HB3.out.size (.cells #[.slice A L.length k,.int .i64 0] 28));have hsz1:=HB23.out.size;have hsz2:=HB3.out.size;have HNE:=h_ (show ∀ b,b < w2.heap.size->b≠w3.heap.size from fun b hb=>by omega);have HGE:=h_ (show w2.heap.size<=w3.heap.size from hsz1);have HGW:=h_ (show w.heap.size<=w3.heap.size from hsz2);have HXA:=h_ (HX2.out.keep HBA.out);clear hsz1 hsz2;go_wp2_with fail
     refine (write_wr HR2.out.1 HXA.out HRM2.out HSG.out HNE.out (by have:=HR2.out.2.2;omega) (by have:=HR2.out.2.2;omega)).mono ?_
     rintro e w4 ⟨rfl,hst4,hbar⟩;have HB4:=h_ (hbar.below HBW.out HGW.out (Nat.le_refl _));have HB24:=h_ (hbar.below HBA.out HGE.out (Nat.le_refl _));clear hst4 hbar HXA HSG HNE HGE HGW HBA HBW;obtain ⟨tx,htx⟩:∃ z,z=bs (flatP (wrW (ndW L 12) l 0).1):=⟨_,rfl⟩;have HTX:=h_ htx;rw [<-htx];clear htx;have hsh:=write_short HP.out (by rw [<-size_list];exact HC1.out) HR2.out.1 L 0;have CP:=tParse tx w4 (by rw [HTX.out,bs_size];exact hsh) (HM.out.keep HB4.out) (HV.out.keep HB4.out);unfold PrPost at CP
     rw [show parseF tx.data.toList=(l,0) from by
      rw [HTX.out,bs_list]
      exact nodes_read L HR2.out.1 HR2.out.2.1 hsh] at CP
     have HCP:=h_ CP;clear CP hsh;go_wp2_with fail
     refine HCP.out.mono ?_
     rintro e w5 ⟨a5,k5,rfl,hx5,hrm5,hb5⟩;have HB5:=h_ (Below.next HB4.out hb5);have HB25:=h_ (Below.next HB24.out hb5);have HX5:=h_ hx5;have HRM5:=h_ hrm5;clear hb5 hx5 hrm5 HCP;go_wp2_with fail
     refine (HCW.out _ HB5.out).mono ?_
     rintro e w6 ⟨rfl,hb6⟩;have HB6:=h_ (Below.next HB5.out hb6);have HB26:=h_ (Below.next HB25.out hb6);have HB56:=h_ hb6;clear hb6;go_wp2_with fail
     refine (tsame7 l w5 w2 w6 _ _ a5 a2 k5 k2 HX5.out HX2.out HRM5.out HB56.out HB26.out).mono ?_
     rintro e w7 ⟨rfl,hb7⟩;go_wp2_with fail;go_ret
     exact ⟨rfl,Below.next HB6.out hb7⟩
   ·obtain rfl:l=[]:=HBAD.out hb0
    have g1:(b !=0)=true:=bne_iff_ne.2 hb0;clear HBAD HP hb0;go_wp2_with fail
    refine (HCW.out _ HB1.out).mono ?_
    rintro e w4 ⟨rfl,hb4⟩;go_wp2_with fail;go_ret
    exact ⟨rfl,Below.next HB1.out hb4⟩
  ·have d2:decide ((L.length:Int)>200)=true:=decide_eq_true (by omega)
   clear c2;go_wp2_with fail
   refine (HCW.out _ (Below.refl _ _)).mono ?_
   rintro e w3 ⟨rfl,hb3⟩;go_wp2_with fail;go_ret
   exact ⟨rfl,hb3⟩
 ·have d1:decide ((s.size:Int)>2000)=true:=decide_eq_true (by omega)
  clear c1;go_wp2_with fail
  refine (HCW.out _ (Below.refl _ _)).mono ?_
  rintro e w3 ⟨rfl,hb3⟩;go_wp2_with fail;go_ret
  exact ⟨rfl,hb3⟩
end Go.Proofs.YtnblmhfgmehnnaaGreatDoor
