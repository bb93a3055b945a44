/- Several texts as one. -/
import Derived.Test.YtnblmhfgmehnnaaGreatDoorPeFo
import Derived.Test.YtnblmhfgmehnnaaGreatDoorPeMv
import Derived.Test.YtnblmhfgmehnnaaGreatDoorPeAO
set_option maxRecDepth 100000
set_option maxHeartbeats 8000000
namespace Go.Proofs.YtnblmhfgmehnnaaGreatDoor
open Go.RowKit Go.Lib
attribute [local go_sem ↓] Go.wp_at_zero Go.wp_at_succ
theorem bl_case1a (gm:Nat) (A:OA_) (c:Nat) (toks:List Tok) (m0:Mk) (wd s:ByteArray) (w:World) (hw4:wd.data.toList=ifW\/wd.data.toList=withW\/wd.data.toList=rangeW\/wd.data.toList=defineW) (h:MkAt w gm A c toks m0) (hv:ScalV w) (hs1:0<=m0.deep) (hs0:m0.deep+m0.rest.length < 1000000) (hgl:Glob gm) (hfit:Fit toks) (THEAD:∀ (m:Mk) (W:World),MkAt W gm A c toks m->ScalV W->Calls Tryz.prog 80 #[.pointer (some ⟨gm,0,none⟩),.string wd,.string s] W (NdPost gm A c toks (headF wd.data.toList s.data.toList m).1 (headF wd.data.toList s.data.toList m).2 W)) {n:Nat} (hf:2*m0.rest.length+2<=n+1) (HN:NoOk gm A c toks n) (HB:BlOk gm A c toks n) (hdp:¬ 16 < m0.deep+1) (hK:BCase 1 (nodesF n [] (headF wd.data.toList s.data.toList ⟨m0.rest,m0.deep+1,m0.bad⟩).2).1.stop wd.data.toList (skipB (nodesF n [] (headF wd.data.toList s.data.toList ⟨m0.rest,m0.deep+1,m0.bad⟩).2).1.rest)) (hE:ECase 0 (nodesF n [] (nodesF n [] (headF wd.data.toList s.data.toList ⟨m0.rest,m0.deep+1,m0.bad⟩).2).2).1.stop (skipB (nodesF n [] (nodesF n [] (headF wd.data.toList s.data.toList ⟨m0.rest,m0.deep+1,m0.bad⟩).2).2).1.rest)):Calls Tryz.prog 57 #[.pointer (some ⟨gm,0,none⟩),.string wd,.string s] w (NdPost gm A c toks (blockF (n+1) wd.data.toList s.data.toList m0).1 (blockF (n+1) wd.data.toList s.data.toList m0).2 w):=by
 obtain ⟨Y0,hY0⟩:∃ z,z=blockF (n+1) wd.data.toList s.data.toList m0:=⟨_,rfl⟩;rw [<-hY0];obtain ⟨rest,d,b⟩:=m0;rw [blockF] at hY0
 simp only at hY0 hf hK hE
 simp only at hs0 hs1
 have HDP:=h_ (show ¬ 16 < d+1 from hdp);clear hdp;have hgm:=h.blk.lt
 have hglob:∀ g,w.heap.size<=g->Glob g:=fun g hg=>hv.glob hg
 have hb0:Below w.heap.size w (w.alloc (.cells #[.int .i64 0,.string ⟨#[]⟩,.int .i64 0,.int .i64 0,.bool false,.int .i64 0,.string ⟨#[]⟩,.slice none 0 0,.slice none 0 0,.string ⟨#[]⟩,.slice none 0 0,.slice none 0 0,.string ⟨#[]⟩,.string ⟨#[]⟩,.slice none 0 0,.slice none 0 0] 64)):=Below.new _ _;have H0:=h_ (h.keep hb0);have HX0:=h_ (show Blk (w.alloc (.cells #[.int .i64 0,.string ⟨#[]⟩,.int .i64 0,.int .i64 0,.bool false,.int .i64 0,.string ⟨#[]⟩,.slice none 0 0,.slice none 0 0,.string ⟨#[]⟩,.slice none 0 0,.slice none 0 0,.string ⟨#[]⟩,.string ⟨#[]⟩,.slice none 0 0,.slice none 0 0] 64)) w.heap.size 64 #[.int .i64 0,.string ⟨#[]⟩,.int .i64 0,.int .i64 0,.bool false,.int .i64 0,.string ⟨#[]⟩,.slice none 0 0,.slice none 0 0,.string ⟨#[]⟩,.slice none 0 0,.slice none 0 0,.string ⟨#[]⟩,.string ⟨#[]⟩,.slice none 0 0,.slice none 0 0] from Blk.new _ _ _);have HB0:=h_ (Bar.of (gc:=gm) hb0);have HV0:=h_ (hv.keep hb0);have HY0:=h_ hY0;have HVW:=h_ hv;have HBH:=h_ HB;have HNH:=h_ HN;have HTH:=h_ THEAD;have HGL:=h_ hglob;have HW4:=h_ hw4;clear h hv HB HN THEAD hglob hY0 hw4;obtain ⟨W0,e0⟩:∃ z,z=w.alloc (.cells #[.int .i64 0,.string ⟨#[]⟩,.int .i64 0,.int .i64 0,.bool false,.int .i64 0,.string ⟨#[]⟩,.slice none 0 0,.slice none 0 0,.string ⟨#[]⟩,.slice none 0 0,.slice none 0 0,.string ⟨#[]⟩,.string ⟨#[]⟩,.slice none 0 0,.slice none 0 0] 64):=⟨_,rfl⟩;obtain ⟨n6,e6⟩:∃ z,z=w.heap.size:=⟨_,rfl⟩;rw [<-e0] at H0 HX0 HB0 HV0;rw [<-e6] at HX0
 have hn6g:n6≠gm:=by omega
 have hwn6:w.heap.size<=n6:=by omega
 have E0:=h_ e0;have E6:=h_ e6;clear e0 e6 hb0;have hwk:IntKind.i64.wrap (d+1)=d+1:=wrap_fit (by omega) (by omega);have km:=H0.out.blk.cell;have fm:=H0.out.blk.frozen;have lm:=H0.out.blk.lt
 go_enter Tryz.func57,Tryz.ntmps57
 refine wp_seq_cut (fun K0 hK0=>?_)
 go_wp2_with fail
 refine hK0.out _ _ ?_
 rw [<-E0.out,<-E6.out];clear E0 hK0 K0;have HM1:=h_ (show MkAt (W0.setCell ⟨gm,2,none⟩ (.int .i64 (d+1))) gm A c toks ⟨rest,d+1,b⟩ from ⟨H0.out.blk.set_ 2 (.int .i64 (d+1)),H0.out.rest,H0.out.toks.barM (Bar.set gm 2 _)⟩);have HB1:=h_ (HB0.out.trans (Bar.set gm 2 (.int .i64 (d+1))));have HX1:=h_ (HX0.out.far (p:=⟨gm,2,none⟩) hn6g (.int .i64 (d+1)));have HV1:=h_ (HV0.out.bar (Bar.set gm 2 (.int .i64 (d+1))) hgl);go_upto_region 2 with fail;obtain ⟨W1,e1⟩:∃ z,z=W0.setCell ⟨gm,2,none⟩ (.int .i64 (d+1)):=⟨_,rfl⟩;rw [<-e1] at HM1 HB1 HX1 HV1;rw [<-e1];clear e1 km fm lm H0 HB0 HX0 HV0;have km:=HM1.out.blk.cell;have fm:=HM1.out.blk.frozen;have lm:=HM1.out.blk.lt
 have hdp:¬ 16 < d+1:=by have:=HDP.out;omega
 clear HDP;have hYY:=HY0.out;rw [if_neg hdp] at hYY
 have hdp2:d+1<=16:=by omega
 have gd:decide (d+1>16)=false:=decide_eq_false hdp;have CH:=HTH.out _ _ HM1.out HV1.out;have hle1:=headF_le wd.data.toList s.data.toList ⟨rest,d+1,b⟩;obtain ⟨⟨nd1,m1⟩,hH1⟩:∃ z,z=headF wd.data.toList s.data.toList ⟨rest,d+1,b⟩:=⟨_,rfl⟩;rw [<-hH1] at CH hYY hle1 hK hE
 simp only at CH hYY hle1 hK hE
 have HK:=h_ hK;clear hK;have HE:=h_ hE;clear hE;have l1:=hle1.len;have l2:=hle1.low;have l3:=hle1.sum
 simp only at l1 l2 l3
 have CHH:=h_ CH;have HYY:=h_ hYY;clear CH hYY hH1 hle1 HY0 hwk HTH;go_wp2_with fail
 refine CHH.out.mono ?_
 rintro e w2 ⟨cs,rfl,hx2,hm2,hbar2⟩;obtain ⟨la,lc,ma,mc,sa,sc,aa,ac,ba,bc,ea,ec,rfl,hp2⟩:=hx2.inv;have hb7:=Below.new w2 (.cells (aN nd1 la lc ma mc sa sc aa ac ba bc ea ec) 64);have hl6:=HX1.out.lt;have hbs:=hbar2.size;have hws:=HB1.out.size;have HST:=h_ (show BkSt w (w2.alloc (.cells (aN nd1 la lc ma mc sa sc aa ac ba bc ea ec) 64)) gm A c toks n6 w2.heap.size m1 la lc ma mc sa sc aa ac ba bc ea ec nd1 from ⟨hm2.keep hb7,(HB1.out.trans hbar2).trans (Bar.of hb7),(HV1.out.bar hbar2 hgl).keep hb7,(hbar2.blk HX1.out hn6g).keep hb7,Blk.new _ _ _,hp2.mono (fun b hb hlt=>⟨by omega,by omega,by omega⟩) (fun b o hb hlt=>hb7.cell hlt)⟩)
 have hn7:n6 < w2.heap.size:=by omega
 clear hx2 hm2 hp2 hbar2 hb7 km fm lm;unfold aN at *;go_upto_region 6 with fail;obtain ⟨W3,e3⟩:∃ z,z=w2.alloc (.cells #[.int .i64 nd1.kind,.string nd1.text,.int .i64 nd1.x.kind,.int .i64 nd1.x.val.kind,.bool nd1.x.val.bool,.int .i64 nd1.x.val.int,.string nd1.x.val.str,.slice la nd1.x.val.list.length lc,.slice ma nd1.x.val.map.length mc,.string nd1.x.name,.slice sa nd1.x.steps.length sc,.slice aa nd1.x.args.length ac,.string nd1.key,.string nd1.name,.slice ba nd1.body.length bc,.slice ea nd1.els.length ec] 64):=⟨_,rfl⟩;obtain ⟨n7,e7⟩:∃ z,z=w2.heap.size:=⟨_,rfl⟩;rw [<-e3,<-e7] at HST;rw [<-e7] at hn7;rw [<-e3,<-e7]
 have hn7g:n7≠gm:=by omega
 have hwn7:w.heap.size<=n7:=by omega
 have HG7:=h_ (HGL.out n7 hwn7);clear e3 e7 hbs hws hl6;have CN:=HNH.out n (Nat.le_refl _) m1 W3 (by omega) ⟨by omega,by omega⟩ HST.out.mkr HST.out.sv;have HRS1:=h_ (show (nodesF n [] m1).1.rest.length<=65536 from ((nodes_suf n).1 [] m1).2 65536 (fun t ht=>hfit t (by have h9:=HST.out.mkr.rest;rw [h9] at ht;exact List.mem_of_mem_drop ht)));have hle2:=((nodes_le n).1 [] m1).1;have hst2:=((nodes_le n).1 [] m1).2;have hlt2:=nodes_lt n [] m1;have hct2:=nodes_cnt n [] m1;obtain ⟨⟨⟨out1,st1,rs1⟩,m2⟩,hN1⟩:∃ z,z=nodesF n [] m1:=⟨_,rfl⟩;have hYY:=HYY.out;have hK:=HK.out;clear HK;have hE:=HE.out;clear HE;rw [<-hN1] at CN hYY hle2 hst2 hlt2 hct2 HRS1 hK hE
 simp only at CN hYY hle2 hst2 hlt2 hct2 hK hE
 have HK:=h_ hK;clear hK;have HE:=h_ hE;clear hE;rw [List.length_nil] at hct2;have l4:=hle2.len;have l5:=hle2.low;have l6:=hle2.sum;have HST2:=h_ hst2;have HLT2:=h_ hlt2;have CNN:=h_ CN;clear CN hN1 hle2 HYY hst2 hlt2;have HYY:=h_ hYY;clear hYY;go_wp2_with fail
 refine CNN.out.mono ?_
 rintro e w4 ⟨a1,k1,rfl,ho1,hm4,hbar4⟩
 have h67:n6≠n7:=by omega
 have hl7:=HST.out.b7.lt;have hST4:=HST.out.step hbar4 hm4 hgl hgm hn6g hn7g;have HST4:=h_ hST4;have HST5:=h_ (hST4.setB (rep_behind ho1 (by omega) (by omega) (by omega)) (own_roomN ho1 (show out1.length<=1000000 by omega)) hgm h67 hwn7 HG7.out);have k7:=hST4.b7.cell;have f7:=hST4.b7.frozen;have l7:=hST4.b7.lt;clear ho1 hm4 hbar4 hST4;go_upto_region 8 with fail;obtain ⟨W5,e5⟩:∃ z,z=w4.setCell ⟨n7,14,none⟩ (.slice a1 out1.length k1):=⟨_,rfl⟩;rw [<-e5] at HST5;rw [<-e5];clear e5 k7 f7 l7 HST4;have hrl:rs1.length<=65536:=HRS1.out;have CT:=h_ (fun (W:World)=>show Calls Tryz.prog 50 #[.string (bs rs1),.string ⟨#[32,9,10]⟩] W (fun e w'=>e=.returned (.string (bs (skipB rs1)))/\Below W.heap.size W w') from ttrimL (bs rs1) W);have hsk:=skip_len rs1;obtain ⟨tr,htr⟩:∃ z,z=skipB rs1:=⟨_,rfl⟩;have hYY:=HYY.out;have hK:=HK.out;clear HK;rw [<-htr] at CT hsk hYY hK;have CW:=h_ (fun (W:World)=>tword (bs tr) W (by rw [bs_size];omega))
 simp only at CW
 have hmo:(nameT tr).data.toList=wordL tr:=rfl;obtain ⟨mo,hmo2⟩:∃ z,z=nameT tr:=⟨_,rfl⟩;obtain ⟨tl,htl⟩:∃ z,z=nameD tr:=⟨_,rfl⟩
 have htl2:tl.length<=tr.length:=by rw [htl];exact nameD_le tr
 rw [<-hmo2,<-htl] at CW;rw [<-hmo2] at hmo;have HMO:=h_ hmo;have HK:=h_ hK;clear hK;rw [<-hmo,<-htl] at hYY;have HYY:=h_ hYY;have HTR:=h_ htr;clear hYY hmo hmo2 htl htr;go_wp2_with fail
 refine (CT.out _).mono ?_
 rintro e w5 ⟨rfl,hb5⟩;have HST6:=h_ (HST5.out.below hb5 hgl hgm hn6g hn7g);clear hb5 HST5;go_wp2_with fail
 refine (CW.out _).mono ?_
 rintro e w6 ⟨rfl,hb6⟩;have HST:=h_ (HST6.out.below hb6 hgl hgm hn6g hn7g);clear hb6 HST6;go_upto_region 9 with fail;have hl4:=HST.out.mkr.le;obtain ⟨sv,hsv⟩:∃ z,z=bs st1:=⟨_,rfl⟩;rw [<-hsv];obtain ⟨rv,hrv⟩:∃ z,z=bs rs1:=⟨_,rfl⟩;rw [<-hrv] at CT ⊢;obtain ⟨tv,htv⟩:∃ z,z=bs tr:=⟨_,rfl⟩;rw [<-htv] at CT ⊢
 have hsl:∀ l:LB_,(sv.toList==l)=decide (st1=l):=fun l=>by rw [word_eq,hsv]
 have htl3:tv.toList.isEmpty=decide (tr=[]):=by rw [empty_eq,htv]
 have HSL:=h_ hsl;have HTL:=h_ htl3;have HRV:=h_ hrv;have HTV:=h_ htv;clear hsv hrv htv hsl htl3
 have hdd:0<=m2.deep/\m2.deep<=2000000:=by omega
 obtain ⟨c1,c2,c3,c4⟩:st1=elseW/\wd.data.toList=ifW/\wordL tr≠ifW/\tr=[]:=HK.out;rw [<-HMO.out] at c3;clear HK HMO
 have g1:(sv.toList==[101,108,115,101])=true:=by rw [HSL.out];exact decide_eq_true c1
 have g2:(wd.toList==[105,102])=true:=by rw [word_eq];exact decide_eq_true c2
 have g3:(mo.toList==[105,102])=false:=by rw [word_eq];exact decide_eq_false c3
 have g4:(wd.toList==[100,101,102,105,110,101])=false:=by rw [word_eq,c2];decide
 have c5:wd.data.toList≠defineW:=by rw [c2];decide
 have hYY:=HYY.out;rw [if_neg (fun h=>c3 h.2.2),if_pos ⟨c1,c5,c4⟩] at hYY
 have ge:tv.toList.isEmpty=true:=by rw [HTL.out];exact decide_eq_true c4
 have CN:=fun (W:World) (hM:MkAt W gm A c toks m2) (hS:ScalV W)=>HNH.out n (Nat.le_refl _) m2 W (by omega) ⟨by omega,by omega⟩ hM hS
 have hle3:=((nodes_le n).1 [] m2).1;have hct3:=nodes_cnt n [] m2;obtain ⟨⟨⟨out2,st2,rs2⟩,m3⟩,hN⟩:∃ z,z=nodesF n [] m2:=⟨_,rfl⟩;have hE:=HE.out;rw [<-hN] at CN hYY hle3 hct3 hE
 simp only at CN hYY hle3 hct3 hE
 clear HE;have HE:=h_ hE;clear hE;rw [List.length_nil] at hct3;have l8:=hle3.len;have l9:=hle3.low;have l10:=hle3.sum;have CNN:=h_ CN;have HYX:=h_ hYY;clear CN hN hle3 hYY HYY c1 c4 c5 c2 c3;go_wp2_with fail
 refine (CT.out _).mono ?_
 rintro e w7 ⟨rfl,hb7⟩;have HST7:=h_ (HST.out.below hb7 hgl hgm hn6g hn7g);have hw7:=hb7.size;have hl7:=HST.out.b7.lt;clear hb7 HST;go_wp2_with fail
 refine (CNN.out _ HST7.out.mkr HST7.out.sv).mono ?_
 rintro e w8 ⟨a2,k2,rfl,ho2,hm8,hbar8⟩;have hST8:=HST7.out.step hbar8 hm8 hgl hgm hn6g hn7g;have hST9:=hST8.setE (rep_behind ho2 (by omega) (by omega) (by omega)) (own_roomN ho2 (show out2.length<=1000000 by omega)) hgm h67 hwn7 HG7.out;have HSTX:=h_ hST9;have k7:=hST8.b7.cell;have f7:=hST8.b7.frozen;have l7:=hST8.b7.lt;clear ho2 hm8 hbar8 hST8 hST9 HST7;go_upto_region 15 with fail;obtain ⟨sv2,hsv2⟩:∃ z,z=bs st2:=⟨_,rfl⟩;rw [<-hsv2];obtain ⟨rv2,hrv2⟩:∃ z,z=bs rs2:=⟨_,rfl⟩;rw [<-hrv2]
 have hsl2:∀ l:LB_,(sv2.toList==l)=decide (st2=l):=fun l=>by rw [word_eq,hsv2]
 have HSL2:=h_ hsl2;have HRV2:=h_ hrv2;clear hsv2 hrv2 hsl2;obtain ⟨WX,eX⟩:∃ z,z=w8.setCell ⟨n7,15,none⟩ (.slice a2 out2.length k2):=⟨_,rfl⟩;rw [<-eX] at HSTX;rw [<-eX];clear eX k7 f7 l7;have e1:st2=endW:=HE.out.1
 have ge1:(sv2.toList==[101,110,100])=true:=by rw [HSL2.out];exact decide_eq_true e1
 have CT2:=h_ (fun (W:World)=>show Calls Tryz.prog 50 #[.string rv2,.string ⟨#[32,9,10]⟩] W (fun e w'=>e=.returned (.string (bs (skipB rs2)))/\Below W.heap.size W w') from by rw [HRV2.out];exact ttrimL (bs rs2) W);have e2:skipB rs2=[]:=HE.out.2;clear HE
 have ge2:(bs (skipB rs2)).toList.isEmpty=true:=by rw [empty_eq,bs_list];exact decide_eq_true e2
 have HZ:=h_ (show Y0=(((nd1.setBody out1).setEls out2),Mk.up m3) from by rw [HYX.out,if_neg (fun h=>h.elim (fun h=>h e1) (fun h=>h e2))]);obtain ⟨sk,hsk⟩:∃ z,z=bs (skipB rs2):=⟨_,rfl⟩;rw [<-hsk] at CT2 ge2;clear hsk e1 e2 HYX;go_wp2_with fail
 refine (CT2.out _).mono ?_
 rintro e w11 ⟨rfl,hb11⟩;have HSTX2:=h_ (HSTX.out.below hb11 hgl hgm hn6g hn7g);clear HSTX hb11 ge1;have HSTX:=HSTX2;clear HSTX2;have hmY:0<=(m3).deep/\(m3).deep<=2000000:=(by omega);obtain ⟨mY,emY⟩:∃ z,z=m3:=⟨_,rfl⟩;rw [<-emY] at HSTX hmY HZ;clear emY;go_upto_region 17 with fail;have hwk:IntKind.i64.wrap (mY.deep - 1)=mY.deep - 1:=wrap_fit (by omega) (by omega);have HSTY:=h_ (HSTX.out.deep (mY.deep - 1) hgl hgm hn6g hn7g);have km:=HSTX.out.mkr.blk.cell;have fm:=HSTX.out.mkr.blk.frozen;have lm:=HSTX.out.mkr.blk.lt;go_upto_region 18 with fail;obtain ⟨WY,eY⟩:∃ z,z=World.setCell w11 ⟨gm,2,none⟩ (.int .i64 (mY.deep - 1)):=⟨_,rfl⟩;rw [<-eY] at HSTY;rw [<-eY];clear eY km fm lm HSTX hwk;have k7:=HSTY.out.b7.cell;have f7:=HSTY.out.b7.frozen;have l7:=HSTY.out.b7.lt;have k6:=HSTY.out.b6.cell;have f6:=HSTY.out.b6.frozen;have l6:=HSTY.out.b6.lt;go_wp2_with fail
 refine ret_cell (p:=6) (g:=n6) rfl rfl (blk_set16 (w:=WY) HSTY.out.b6) Tryz.underlying64 (by kernel_rfl) rfl ?_
 rw [HZ.out]
 exact BkSt.post hgm hwn6 HSTY.out (bar_set16 _ _ _ _ _ _ _ _ _ _ _ _ _ _ _ _ _ _)
theorem bl_case1b (gm:Nat) (A:OA_) (c:Nat) (toks:List Tok) (m0:Mk) (wd s:ByteArray) (w:World) (hw4:wd.data.toList=ifW\/wd.data.toList=withW\/wd.data.toList=rangeW\/wd.data.toList=defineW) (h:MkAt w gm A c toks m0) (hv:ScalV w) (hs1:0<=m0.deep) (hs0:m0.deep+m0.rest.length < 1000000) (hgl:Glob gm) (hfit:Fit toks) (THEAD:∀ (m:Mk) (W:World),MkAt W gm A c toks m->ScalV W->Calls Tryz.prog 80 #[.pointer (some ⟨gm,0,none⟩),.string wd,.string s] W (NdPost gm A c toks (headF wd.data.toList s.data.toList m).1 (headF wd.data.toList s.data.toList m).2 W)) {n:Nat} (hf:2*m0.rest.length+2<=n+1) (HN:NoOk gm A c toks n) (HB:BlOk gm A c toks n) (hdp:¬ 16 < m0.deep+1) (hK:BCase 1 (nodesF n [] (headF wd.data.toList s.data.toList ⟨m0.rest,m0.deep+1,m0.bad⟩).2).1.stop wd.data.toList (skipB (nodesF n [] (headF wd.data.toList s.data.toList ⟨m0.rest,m0.deep+1,m0.bad⟩).2).1.rest)) (hE:ECase 1 (nodesF n [] (nodesF n [] (headF wd.data.toList s.data.toList ⟨m0.rest,m0.deep+1,m0.bad⟩).2).2).1.stop (skipB (nodesF n [] (nodesF n [] (headF wd.data.toList s.data.toList ⟨m0.rest,m0.deep+1,m0.bad⟩).2).2).1.rest)):Calls Tryz.prog 57 #[.pointer (some ⟨gm,0,none⟩),.string wd,.string s] w (NdPost gm A c toks (blockF (n+1) wd.data.toList s.data.toList m0).1 (blockF (n+1) wd.data.toList s.data.toList m0).2 w):=by
 obtain ⟨Y0,hY0⟩:∃ z,z=blockF (n+1) wd.data.toList s.data.toList m0:=⟨_,rfl⟩;rw [<-hY0];obtain ⟨rest,d,b⟩:=m0;rw [blockF] at hY0
 simp only at hY0 hf hK hE
 simp only at hs0 hs1
 have HDP:=h_ (show ¬ 16 < d+1 from hdp);clear hdp;have hgm:=h.blk.lt
 have hglob:∀ g,w.heap.size<=g->Glob g:=fun g hg=>hv.glob hg
 have hb0:Below w.heap.size w (w.alloc (.cells #[.int .i64 0,.string ⟨#[]⟩,.int .i64 0,.int .i64 0,.bool false,.int .i64 0,.string ⟨#[]⟩,.slice none 0 0,.slice none 0 0,.string ⟨#[]⟩,.slice none 0 0,.slice none 0 0,.string ⟨#[]⟩,.string ⟨#[]⟩,.slice none 0 0,.slice none 0 0] 64)):=Below.new _ _;have H0:=h_ (h.keep hb0);have HX0:=h_ (show Blk (w.alloc (.cells #[.int .i64 0,.string ⟨#[]⟩,.int .i64 0,.int .i64 0,.bool false,.int .i64 0,.string ⟨#[]⟩,.slice none 0 0,.slice none 0 0,.string ⟨#[]⟩,.slice none 0 0,.slice none 0 0,.string ⟨#[]⟩,.string ⟨#[]⟩,.slice none 0 0,.slice none 0 0] 64)) w.heap.size 64 #[.int .i64 0,.string ⟨#[]⟩,.int .i64 0,.int .i64 0,.bool false,.int .i64 0,.string ⟨#[]⟩,.slice none 0 0,.slice none 0 0,.string ⟨#[]⟩,.slice none 0 0,.slice none 0 0,.string ⟨#[]⟩,.string ⟨#[]⟩,.slice none 0 0,.slice none 0 0] from Blk.new _ _ _);have HB0:=h_ (Bar.of (gc:=gm) hb0);have HV0:=h_ (hv.keep hb0);have HY0:=h_ hY0;have HVW:=h_ hv;have HBH:=h_ HB;have HNH:=h_ HN;have HTH:=h_ THEAD;have HGL:=h_ hglob;have HW4:=h_ hw4;clear h hv HB HN THEAD hglob hY0 hw4;obtain ⟨W0,e0⟩:∃ z,z=w.alloc (.cells #[.int .i64 0,.string ⟨#[]⟩,.int .i64 0,.int .i64 0,.bool false,.int .i64 0,.string ⟨#[]⟩,.slice none 0 0,.slice none 0 0,.string ⟨#[]⟩,.slice none 0 0,.slice none 0 0,.string ⟨#[]⟩,.string ⟨#[]⟩,.slice none 0 0,.slice none 0 0] 64):=⟨_,rfl⟩;obtain ⟨n6,e6⟩:∃ z,z=w.heap.size:=⟨_,rfl⟩;rw [<-e0] at H0 HX0 HB0 HV0;rw [<-e6] at HX0
 have hn6g:n6≠gm:=by omega
 have hwn6:w.heap.size<=n6:=by omega
 have E0:=h_ e0;have E6:=h_ e6;clear e0 e6 hb0;have hwk:IntKind.i64.wrap (d+1)=d+1:=wrap_fit (by omega) (by omega);have km:=H0.out.blk.cell;have fm:=H0.out.blk.frozen;have lm:=H0.out.blk.lt
 go_enter Tryz.func57,Tryz.ntmps57
 refine wp_seq_cut (fun K0 hK0=>?_)
 go_wp2_with fail
 refine hK0.out _ _ ?_
 rw [<-E0.out,<-E6.out];clear E0 hK0 K0;have HM1:=h_ (show MkAt (W0.setCell ⟨gm,2,none⟩ (.int .i64 (d+1))) gm A c toks ⟨rest,d+1,b⟩ from ⟨H0.out.blk.set_ 2 (.int .i64 (d+1)),H0.out.rest,H0.out.toks.barM (Bar.set gm 2 _)⟩);have HB1:=h_ (HB0.out.trans (Bar.set gm 2 (.int .i64 (d+1))));have HX1:=h_ (HX0.out.far (p:=⟨gm,2,none⟩) hn6g (.int .i64 (d+1)));have HV1:=h_ (HV0.out.bar (Bar.set gm 2 (.int .i64 (d+1))) hgl);go_upto_region 2 with fail;obtain ⟨W1,e1⟩:∃ z,z=W0.setCell ⟨gm,2,none⟩ (.int .i64 (d+1)):=⟨_,rfl⟩;rw [<-e1] at HM1 HB1 HX1 HV1;rw [<-e1];clear e1 km fm lm H0 HB0 HX0 HV0;have km:=HM1.out.blk.cell;have fm:=HM1.out.blk.frozen;have lm:=HM1.out.blk.lt
 have hdp:¬ 16 < d+1:=by have:=HDP.out;omega
 clear HDP;have hYY:=HY0.out;rw [if_neg hdp] at hYY
 have hdp2:d+1<=16:=by omega
 have gd:decide (d+1>16)=false:=decide_eq_false hdp;have CH:=HTH.out _ _ HM1.out HV1.out;have hle1:=headF_le wd.data.toList s.data.toList ⟨rest,d+1,b⟩;obtain ⟨⟨nd1,m1⟩,hH1⟩:∃ z,z=headF wd.data.toList s.data.toList ⟨rest,d+1,b⟩:=⟨_,rfl⟩;rw [<-hH1] at CH hYY hle1 hK hE
 simp only at CH hYY hle1 hK hE
 have HK:=h_ hK;clear hK;have HE:=h_ hE;clear hE;have l1:=hle1.len;have l2:=hle1.low;have l3:=hle1.sum
 simp only at l1 l2 l3
 have CHH:=h_ CH;have HYY:=h_ hYY;clear CH hYY hH1 hle1 HY0 hwk HTH;go_wp2_with fail
 refine CHH.out.mono ?_
 rintro e w2 ⟨cs,rfl,hx2,hm2,hbar2⟩;obtain ⟨la,lc,ma,mc,sa,sc,aa,ac,ba,bc,ea,ec,rfl,hp2⟩:=hx2.inv;have hb7:=Below.new w2 (.cells (aN nd1 la lc ma mc sa sc aa ac ba bc ea ec) 64);have hl6:=HX1.out.lt;have hbs:=hbar2.size;have hws:=HB1.out.size;have HST:=h_ (show BkSt w (w2.alloc (.cells (aN nd1 la lc ma mc sa sc aa ac ba bc ea ec) 64)) gm A c toks n6 w2.heap.size m1 la lc ma mc sa sc aa ac ba bc ea ec nd1 from ⟨hm2.keep hb7,(HB1.out.trans hbar2).trans (Bar.of hb7),(HV1.out.bar hbar2 hgl).keep hb7,(hbar2.blk HX1.out hn6g).keep hb7,Blk.new _ _ _,hp2.mono (fun b hb hlt=>⟨by omega,by omega,by omega⟩) (fun b o hb hlt=>hb7.cell hlt)⟩)
 have hn7:n6 < w2.heap.size:=by omega
 clear hx2 hm2 hp2 hbar2 hb7 km fm lm;unfold aN at *;go_upto_region 6 with fail;obtain ⟨W3,e3⟩:∃ z,z=w2.alloc (.cells #[.int .i64 nd1.kind,.string nd1.text,.int .i64 nd1.x.kind,.int .i64 nd1.x.val.kind,.bool nd1.x.val.bool,.int .i64 nd1.x.val.int,.string nd1.x.val.str,.slice la nd1.x.val.list.length lc,.slice ma nd1.x.val.map.length mc,.string nd1.x.name,.slice sa nd1.x.steps.length sc,.slice aa nd1.x.args.length ac,.string nd1.key,.string nd1.name,.slice ba nd1.body.length bc,.slice ea nd1.els.length ec] 64):=⟨_,rfl⟩;obtain ⟨n7,e7⟩:∃ z,z=w2.heap.size:=⟨_,rfl⟩;rw [<-e3,<-e7] at HST;rw [<-e7] at hn7;rw [<-e3,<-e7]
 have hn7g:n7≠gm:=by omega
 have hwn7:w.heap.size<=n7:=by omega
 have HG7:=h_ (HGL.out n7 hwn7);clear e3 e7 hbs hws hl6;have CN:=HNH.out n (Nat.le_refl _) m1 W3 (by omega) ⟨by omega,by omega⟩ HST.out.mkr HST.out.sv;have HRS1:=h_ (show (nodesF n [] m1).1.rest.length<=65536 from ((nodes_suf n).1 [] m1).2 65536 (fun t ht=>hfit t (by have h9:=HST.out.mkr.rest;rw [h9] at ht;exact List.mem_of_mem_drop ht)));have hle2:=((nodes_le n).1 [] m1).1;have hst2:=((nodes_le n).1 [] m1).2;have hlt2:=nodes_lt n [] m1;have hct2:=nodes_cnt n [] m1;obtain ⟨⟨⟨out1,st1,rs1⟩,m2⟩,hN1⟩:∃ z,z=nodesF n [] m1:=⟨_,rfl⟩;have hYY:=HYY.out;have hK:=HK.out;clear HK;have hE:=HE.out;clear HE;rw [<-hN1] at CN hYY hle2 hst2 hlt2 hct2 HRS1 hK hE
 simp only at CN hYY hle2 hst2 hlt2 hct2 hK hE
 have HK:=h_ hK;clear hK;have HE:=h_ hE;clear hE;rw [List.length_nil] at hct2;have l4:=hle2.len;have l5:=hle2.low;have l6:=hle2.sum;have HST2:=h_ hst2;have HLT2:=h_ hlt2;have CNN:=h_ CN;clear CN hN1 hle2 HYY hst2 hlt2;have HYY:=h_ hYY;clear hYY;go_wp2_with fail
 refine CNN.out.mono ?_
 rintro e w4 ⟨a1,k1,rfl,ho1,hm4,hbar4⟩
 have h67:n6≠n7:=by omega
 have hl7:=HST.out.b7.lt;have hST4:=HST.out.step hbar4 hm4 hgl hgm hn6g hn7g;have HST4:=h_ hST4;have HST5:=h_ (hST4.setB (rep_behind ho1 (by omega) (by omega) (by omega)) (own_roomN ho1 (show out1.length<=1000000 by omega)) hgm h67 hwn7 HG7.out);have k7:=hST4.b7.cell;have f7:=hST4.b7.frozen;have l7:=hST4.b7.lt;clear ho1 hm4 hbar4 hST4;go_upto_region 8 with fail;obtain ⟨W5,e5⟩:∃ z,z=w4.setCell ⟨n7,14,none⟩ (.slice a1 out1.length k1):=⟨_,rfl⟩;rw [<-e5] at HST5;rw [<-e5];clear e5 k7 f7 l7 HST4;have hrl:rs1.length<=65536:=HRS1.out;have CT:=h_ (fun (W:World)=>show Calls Tryz.prog 50 #[.string (bs rs1),.string ⟨#[32,9,10]⟩] W (fun e w'=>e=.returned (.string (bs (skipB rs1)))/\Below W.heap.size W w') from ttrimL (bs rs1) W);have hsk:=skip_len rs1;obtain ⟨tr,htr⟩:∃ z,z=skipB rs1:=⟨_,rfl⟩;have hYY:=HYY.out;have hK:=HK.out;clear HK;rw [<-htr] at CT hsk hYY hK;have CW:=h_ (fun (W:World)=>tword (bs tr) W (by rw [bs_size];omega))
 simp only at CW
 have hmo:(nameT tr).data.toList=wordL tr:=rfl;obtain ⟨mo,hmo2⟩:∃ z,z=nameT tr:=⟨_,rfl⟩;obtain ⟨tl,htl⟩:∃ z,z=nameD tr:=⟨_,rfl⟩
 have htl2:tl.length<=tr.length:=by rw [htl];exact nameD_le tr
 rw [<-hmo2,<-htl] at CW;rw [<-hmo2] at hmo;have HMO:=h_ hmo;have HK:=h_ hK;clear hK;rw [<-hmo,<-htl] at hYY;have HYY:=h_ hYY;have HTR:=h_ htr;clear hYY hmo hmo2 htl htr;go_wp2_with fail
 refine (CT.out _).mono ?_
 rintro e w5 ⟨rfl,hb5⟩;have HST6:=h_ (HST5.out.below hb5 hgl hgm hn6g hn7g);clear hb5 HST5;go_wp2_with fail
 refine (CW.out _).mono ?_
 rintro e w6 ⟨rfl,hb6⟩;have HST:=h_ (HST6.out.below hb6 hgl hgm hn6g hn7g);clear hb6 HST6;go_upto_region 9 with fail;have hl4:=HST.out.mkr.le;obtain ⟨sv,hsv⟩:∃ z,z=bs st1:=⟨_,rfl⟩;rw [<-hsv];obtain ⟨rv,hrv⟩:∃ z,z=bs rs1:=⟨_,rfl⟩;rw [<-hrv] at CT ⊢;obtain ⟨tv,htv⟩:∃ z,z=bs tr:=⟨_,rfl⟩;rw [<-htv] at CT ⊢
 have hsl:∀ l:LB_,(sv.toList==l)=decide (st1=l):=fun l=>by rw [word_eq,hsv]
 have htl3:tv.toList.isEmpty=decide (tr=[]):=by rw [empty_eq,htv]
 have HSL:=h_ hsl;have HTL:=h_ htl3;have HRV:=h_ hrv;have HTV:=h_ htv;clear hsv hrv htv hsl htl3
 have hdd:0<=m2.deep/\m2.deep<=2000000:=by omega
 obtain ⟨c1,c2,c3,c4⟩:st1=elseW/\wd.data.toList=ifW/\wordL tr≠ifW/\tr=[]:=HK.out;rw [<-HMO.out] at c3;clear HK HMO
 have g1:(sv.toList==[101,108,115,101])=true:=by rw [HSL.out];exact decide_eq_true c1
 have g2:(wd.toList==[105,102])=true:=by rw [word_eq];exact decide_eq_true c2
 have g3:(mo.toList==[105,102])=false:=by rw [word_eq];exact decide_eq_false c3
 have g4:(wd.toList==[100,101,102,105,110,101])=false:=by rw [word_eq,c2];decide
 have c5:wd.data.toList≠defineW:=by rw [c2];decide
 have hYY:=HYY.out;rw [if_neg (fun h=>c3 h.2.2),if_pos ⟨c1,c5,c4⟩] at hYY
 have ge:tv.toList.isEmpty=true:=by rw [HTL.out];exact decide_eq_true c4
 have CN:=fun (W:World) (hM:MkAt W gm A c toks m2) (hS:ScalV W)=>HNH.out n (Nat.le_refl _) m2 W (by omega) ⟨by omega,by omega⟩ hM hS
 have hle3:=((nodes_le n).1 [] m2).1;have hct3:=nodes_cnt n [] m2;obtain ⟨⟨⟨out2,st2,rs2⟩,m3⟩,hN⟩:∃ z,z=nodesF n [] m2:=⟨_,rfl⟩;have hE:=HE.out;rw [<-hN] at CN hYY hle3 hct3 hE
 simp only at CN hYY hle3 hct3 hE
 clear HE;have HE:=h_ hE;clear hE;rw [List.length_nil] at hct3;have l8:=hle3.len;have l9:=hle3.low;have l10:=hle3.sum;have CNN:=h_ CN;have HYX:=h_ hYY;clear CN hN hle3 hYY HYY c1 c4 c5 c2 c3;go_wp2_with fail
 refine (CT.out _).mono ?_
 rintro e w7 ⟨rfl,hb7⟩;have HST7:=h_ (HST.out.below hb7 hgl hgm hn6g hn7g);have hw7:=hb7.size;have hl7:=HST.out.b7.lt;clear hb7 HST;go_wp2_with fail
 refine (CNN.out _ HST7.out.mkr HST7.out.sv).mono ?_
 rintro e w8 ⟨a2,k2,rfl,ho2,hm8,hbar8⟩;have hST8:=HST7.out.step hbar8 hm8 hgl hgm hn6g hn7g;have hST9:=hST8.setE (rep_behind ho2 (by omega) (by omega) (by omega)) (own_roomN ho2 (show out2.length<=1000000 by omega)) hgm h67 hwn7 HG7.out;have HSTX:=h_ hST9;have k7:=hST8.b7.cell;have f7:=hST8.b7.frozen;have l7:=hST8.b7.lt;clear ho2 hm8 hbar8 hST8 hST9 HST7;go_upto_region 15 with fail;obtain ⟨sv2,hsv2⟩:∃ z,z=bs st2:=⟨_,rfl⟩;rw [<-hsv2];obtain ⟨rv2,hrv2⟩:∃ z,z=bs rs2:=⟨_,rfl⟩;rw [<-hrv2]
 have hsl2:∀ l:LB_,(sv2.toList==l)=decide (st2=l):=fun l=>by rw [word_eq,hsv2]
 have HSL2:=h_ hsl2;have HRV2:=h_ hrv2;clear hsv2 hrv2 hsl2;obtain ⟨WX,eX⟩:∃ z,z=w8.setCell ⟨n7,15,none⟩ (.slice a2 out2.length k2):=⟨_,rfl⟩;rw [<-eX] at HSTX;rw [<-eX];clear eX k7 f7 l7;have e1:st2=endW:=HE.out.1
 have ge1:(sv2.toList==[101,110,100])=true:=by rw [HSL2.out];exact decide_eq_true e1
 have CT2:=h_ (fun (W:World)=>show Calls Tryz.prog 50 #[.string rv2,.string ⟨#[32,9,10]⟩] W (fun e w'=>e=.returned (.string (bs (skipB rs2)))/\Below W.heap.size W w') from by rw [HRV2.out];exact ttrimL (bs rs2) W);have e2:¬ skipB rs2=[]:=HE.out.2;clear HE
 have ge2:(bs (skipB rs2)).toList.isEmpty=false:=by rw [empty_eq,bs_list];exact decide_eq_false e2
 have HZ:=h_ (show Y0=(((nd1.setBody out1).setEls out2),(Mk.fail m3 21).up) from by rw [HYX.out,if_pos (.inr e2)]);obtain ⟨sk,hsk⟩:∃ z,z=bs (skipB rs2):=⟨_,rfl⟩;rw [<-hsk] at CT2 ge2;clear hsk e1 e2 HYX;go_wp2_with fail
 refine (CT2.out _).mono ?_
 rintro e w11 ⟨rfl,hb11⟩;have HSTX2:=h_ (HSTX.out.below hb11 hgl hgm hn6g hn7g);clear HSTX hb11 ge1;have HSTX:=HSTX2;clear HSTX2
 have hmY:0<=(Mk.fail m3 21).deep/\(Mk.fail m3 21).deep<=2000000:=show 0<=Mk.deep m3/\Mk.deep m3<=2000000 from by omega
 go_wp2_with fail
 refine (mfail gm A c toks m3 21 _ HSTX.out.mkr).mono ?_
 rintro e w12 ⟨rfl,hm12,hbar12⟩;have HSTX2:=h_ (HSTX.out.step hbar12 hm12 hgl hgm hn6g hn7g);clear HSTX hm12 hbar12;have HSTX:=HSTX2;clear HSTX2;obtain ⟨mY,emY⟩:∃ z,z=Mk.fail m3 21:=⟨_,rfl⟩;rw [<-emY] at HSTX hmY HZ;clear emY;go_upto_region 17 with fail;have hwk:IntKind.i64.wrap (mY.deep - 1)=mY.deep - 1:=wrap_fit (by omega) (by omega);have HSTY:=h_ (HSTX.out.deep (mY.deep - 1) hgl hgm hn6g hn7g);have km:=HSTX.out.mkr.blk.cell;have fm:=HSTX.out.mkr.blk.frozen;have lm:=HSTX.out.mkr.blk.lt;go_upto_region 18 with fail;obtain ⟨WY,eY⟩:∃ z,z=World.setCell w12 ⟨gm,2,none⟩ (.int .i64 (mY.deep - 1)):=⟨_,rfl⟩;rw [<-eY] at HSTY;rw [<-eY];clear eY km fm lm HSTX hwk;have k7:=HSTY.out.b7.cell;have f7:=HSTY.out.b7.frozen;have l7:=HSTY.out.b7.lt;have k6:=HSTY.out.b6.cell;have f6:=HSTY.out.b6.frozen;have l6:=HSTY.out.b6.lt;go_wp2_with fail
 refine ret_cell (p:=6) (g:=n6) rfl rfl (blk_set16 (w:=WY) HSTY.out.b6) Tryz.underlying64 (by kernel_rfl) rfl ?_
 rw [HZ.out]
 exact BkSt.post hgm hwn6 HSTY.out (bar_set16 _ _ _ _ _ _ _ _ _ _ _ _ _ _ _ _ _ _)
theorem bl_case1c (gm:Nat) (A:OA_) (c:Nat) (toks:List Tok) (m0:Mk) (wd s:ByteArray) (w:World) (hw4:wd.data.toList=ifW\/wd.data.toList=withW\/wd.data.toList=rangeW\/wd.data.toList=defineW) (h:MkAt w gm A c toks m0) (hv:ScalV w) (hs1:0<=m0.deep) (hs0:m0.deep+m0.rest.length < 1000000) (hgl:Glob gm) (hfit:Fit toks) (THEAD:∀ (m:Mk) (W:World),MkAt W gm A c toks m->ScalV W->Calls Tryz.prog 80 #[.pointer (some ⟨gm,0,none⟩),.string wd,.string s] W (NdPost gm A c toks (headF wd.data.toList s.data.toList m).1 (headF wd.data.toList s.data.toList m).2 W)) {n:Nat} (hf:2*m0.rest.length+2<=n+1) (HN:NoOk gm A c toks n) (HB:BlOk gm A c toks n) (hdp:¬ 16 < m0.deep+1) (hK:BCase 1 (nodesF n [] (headF wd.data.toList s.data.toList ⟨m0.rest,m0.deep+1,m0.bad⟩).2).1.stop wd.data.toList (skipB (nodesF n [] (headF wd.data.toList s.data.toList ⟨m0.rest,m0.deep+1,m0.bad⟩).2).1.rest)) (hE:ECase 2 (nodesF n [] (nodesF n [] (headF wd.data.toList s.data.toList ⟨m0.rest,m0.deep+1,m0.bad⟩).2).2).1.stop (skipB (nodesF n [] (nodesF n [] (headF wd.data.toList s.data.toList ⟨m0.rest,m0.deep+1,m0.bad⟩).2).2).1.rest)):Calls Tryz.prog 57 #[.pointer (some ⟨gm,0,none⟩),.string wd,.string s] w (NdPost gm A c toks (blockF (n+1) wd.data.toList s.data.toList m0).1 (blockF (n+1) wd.data.toList s.data.toList m0).2 w):=by
 obtain ⟨Y0,hY0⟩:∃ z,z=blockF (n+1) wd.data.toList s.data.toList m0:=⟨_,rfl⟩;rw [<-hY0];obtain ⟨rest,d,b⟩:=m0;rw [blockF] at hY0
 simp only at hY0 hf hK hE
 simp only at hs0 hs1
 have HDP:=h_ (show ¬ 16 < d+1 from hdp);clear hdp;have hgm:=h.blk.lt
 have hglob:∀ g,w.heap.size<=g->Glob g:=fun g hg=>hv.glob hg
 have hb0:Below w.heap.size w (w.alloc (.cells #[.int .i64 0,.string ⟨#[]⟩,.int .i64 0,.int .i64 0,.bool false,.int .i64 0,.string ⟨#[]⟩,.slice none 0 0,.slice none 0 0,.string ⟨#[]⟩,.slice none 0 0,.slice none 0 0,.string ⟨#[]⟩,.string ⟨#[]⟩,.slice none 0 0,.slice none 0 0] 64)):=Below.new _ _;have H0:=h_ (h.keep hb0);have HX0:=h_ (show Blk (w.alloc (.cells #[.int .i64 0,.string ⟨#[]⟩,.int .i64 0,.int .i64 0,.bool false,.int .i64 0,.string ⟨#[]⟩,.slice none 0 0,.slice none 0 0,.string ⟨#[]⟩,.slice none 0 0,.slice none 0 0,.string ⟨#[]⟩,.string ⟨#[]⟩,.slice none 0 0,.slice none 0 0] 64)) w.heap.size 64 #[.int .i64 0,.string ⟨#[]⟩,.int .i64 0,.int .i64 0,.bool false,.int .i64 0,.string ⟨#[]⟩,.slice none 0 0,.slice none 0 0,.string ⟨#[]⟩,.slice none 0 0,.slice none 0 0,.string ⟨#[]⟩,.string ⟨#[]⟩,.slice none 0 0,.slice none 0 0] from Blk.new _ _ _);have HB0:=h_ (Bar.of (gc:=gm) hb0);have HV0:=h_ (hv.keep hb0);have HY0:=h_ hY0;have HVW:=h_ hv;have HBH:=h_ HB;have HNH:=h_ HN;have HTH:=h_ THEAD;have HGL:=h_ hglob;have HW4:=h_ hw4;clear h hv HB HN THEAD hglob hY0 hw4;obtain ⟨W0,e0⟩:∃ z,z=w.alloc (.cells #[.int .i64 0,.string ⟨#[]⟩,.int .i64 0,.int .i64 0,.bool false,.int .i64 0,.string ⟨#[]⟩,.slice none 0 0,.slice none 0 0,.string ⟨#[]⟩,.slice none 0 0,.slice none 0 0,.string ⟨#[]⟩,.string ⟨#[]⟩,.slice none 0 0,.slice none 0 0] 64):=⟨_,rfl⟩;obtain ⟨n6,e6⟩:∃ z,z=w.heap.size:=⟨_,rfl⟩;rw [<-e0] at H0 HX0 HB0 HV0;rw [<-e6] at HX0
 have hn6g:n6≠gm:=by omega
 have hwn6:w.heap.size<=n6:=by omega
 have E0:=h_ e0;have E6:=h_ e6;clear e0 e6 hb0;have hwk:IntKind.i64.wrap (d+1)=d+1:=wrap_fit (by omega) (by omega);have km:=H0.out.blk.cell;have fm:=H0.out.blk.frozen;have lm:=H0.out.blk.lt
 go_enter Tryz.func57,Tryz.ntmps57
 refine wp_seq_cut (fun K0 hK0=>?_)
 go_wp2_with fail
 refine hK0.out _ _ ?_
 rw [<-E0.out,<-E6.out];clear E0 hK0 K0;have HM1:=h_ (show MkAt (W0.setCell ⟨gm,2,none⟩ (.int .i64 (d+1))) gm A c toks ⟨rest,d+1,b⟩ from ⟨H0.out.blk.set_ 2 (.int .i64 (d+1)),H0.out.rest,H0.out.toks.barM (Bar.set gm 2 _)⟩);have HB1:=h_ (HB0.out.trans (Bar.set gm 2 (.int .i64 (d+1))));have HX1:=h_ (HX0.out.far (p:=⟨gm,2,none⟩) hn6g (.int .i64 (d+1)));have HV1:=h_ (HV0.out.bar (Bar.set gm 2 (.int .i64 (d+1))) hgl);go_upto_region 2 with fail;obtain ⟨W1,e1⟩:∃ z,z=W0.setCell ⟨gm,2,none⟩ (.int .i64 (d+1)):=⟨_,rfl⟩;rw [<-e1] at HM1 HB1 HX1 HV1;rw [<-e1];clear e1 km fm lm H0 HB0 HX0 HV0;have km:=HM1.out.blk.cell;have fm:=HM1.out.blk.frozen;have lm:=HM1.out.blk.lt
 have hdp:¬ 16 < d+1:=by have:=HDP.out;omega
 clear HDP;have hYY:=HY0.out;rw [if_neg hdp] at hYY
 have hdp2:d+1<=16:=by omega
 have gd:decide (d+1>16)=false:=decide_eq_false hdp;have CH:=HTH.out _ _ HM1.out HV1.out;have hle1:=headF_le wd.data.toList s.data.toList ⟨rest,d+1,b⟩;obtain ⟨⟨nd1,m1⟩,hH1⟩:∃ z,z=headF wd.data.toList s.data.toList ⟨rest,d+1,b⟩:=⟨_,rfl⟩;rw [<-hH1] at CH hYY hle1 hK hE
 simp only at CH hYY hle1 hK hE
 have HK:=h_ hK;clear hK;have HE:=h_ hE;clear hE;have l1:=hle1.len;have l2:=hle1.low;have l3:=hle1.sum
 simp only at l1 l2 l3
 have CHH:=h_ CH;have HYY:=h_ hYY;clear CH hYY hH1 hle1 HY0 hwk HTH;go_wp2_with fail
 refine CHH.out.mono ?_
 rintro e w2 ⟨cs,rfl,hx2,hm2,hbar2⟩;obtain ⟨la,lc,ma,mc,sa,sc,aa,ac,ba,bc,ea,ec,rfl,hp2⟩:=hx2.inv;have hb7:=Below.new w2 (.cells (aN nd1 la lc ma mc sa sc aa ac ba bc ea ec) 64);have hl6:=HX1.out.lt;have hbs:=hbar2.size;have hws:=HB1.out.size;have HST:=h_ (show BkSt w (w2.alloc (.cells (aN nd1 la lc ma mc sa sc aa ac ba bc ea ec) 64)) gm A c toks n6 w2.heap.size m1 la lc ma mc sa sc aa ac ba bc ea ec nd1 from ⟨hm2.keep hb7,(HB1.out.trans hbar2).trans (Bar.of hb7),(HV1.out.bar hbar2 hgl).keep hb7,(hbar2.blk HX1.out hn6g).keep hb7,Blk.new _ _ _,hp2.mono (fun b hb hlt=>⟨by omega,by omega,by omega⟩) (fun b o hb hlt=>hb7.cell hlt)⟩)
 have hn7:n6 < w2.heap.size:=by omega
 clear hx2 hm2 hp2 hbar2 hb7 km fm lm;unfold aN at *;go_upto_region 6 with fail;obtain ⟨W3,e3⟩:∃ z,z=w2.alloc (.cells #[.int .i64 nd1.kind,.string nd1.text,.int .i64 nd1.x.kind,.int .i64 nd1.x.val.kind,.bool nd1.x.val.bool,.int .i64 nd1.x.val.int,.string nd1.x.val.str,.slice la nd1.x.val.list.length lc,.slice ma nd1.x.val.map.length mc,.string nd1.x.name,.slice sa nd1.x.steps.length sc,.slice aa nd1.x.args.length ac,.string nd1.key,.string nd1.name,.slice ba nd1.body.length bc,.slice ea nd1.els.length ec] 64):=⟨_,rfl⟩;obtain ⟨n7,e7⟩:∃ z,z=w2.heap.size:=⟨_,rfl⟩;rw [<-e3,<-e7] at HST;rw [<-e7] at hn7;rw [<-e3,<-e7]
 have hn7g:n7≠gm:=by omega
 have hwn7:w.heap.size<=n7:=by omega
 have HG7:=h_ (HGL.out n7 hwn7);clear e3 e7 hbs hws hl6;have CN:=HNH.out n (Nat.le_refl _) m1 W3 (by omega) ⟨by omega,by omega⟩ HST.out.mkr HST.out.sv;have HRS1:=h_ (show (nodesF n [] m1).1.rest.length<=65536 from ((nodes_suf n).1 [] m1).2 65536 (fun t ht=>hfit t (by have h9:=HST.out.mkr.rest;rw [h9] at ht;exact List.mem_of_mem_drop ht)));have hle2:=((nodes_le n).1 [] m1).1;have hst2:=((nodes_le n).1 [] m1).2;have hlt2:=nodes_lt n [] m1;have hct2:=nodes_cnt n [] m1;obtain ⟨⟨⟨out1,st1,rs1⟩,m2⟩,hN1⟩:∃ z,z=nodesF n [] m1:=⟨_,rfl⟩;have hYY:=HYY.out;have hK:=HK.out;clear HK;have hE:=HE.out;clear HE;rw [<-hN1] at CN hYY hle2 hst2 hlt2 hct2 HRS1 hK hE
 simp only at CN hYY hle2 hst2 hlt2 hct2 hK hE
 have HK:=h_ hK;clear hK;have HE:=h_ hE;clear hE;rw [List.length_nil] at hct2;have l4:=hle2.len;have l5:=hle2.low;have l6:=hle2.sum;have HST2:=h_ hst2;have HLT2:=h_ hlt2;have CNN:=h_ CN;clear CN hN1 hle2 HYY hst2 hlt2;have HYY:=h_ hYY;clear hYY;go_wp2_with fail
 refine CNN.out.mono ?_
 rintro e w4 ⟨a1,k1,rfl,ho1,hm4,hbar4⟩
 have h67:n6≠n7:=by omega
 have hl7:=HST.out.b7.lt;have hST4:=HST.out.step hbar4 hm4 hgl hgm hn6g hn7g;have HST4:=h_ hST4;have HST5:=h_ (hST4.setB (rep_behind ho1 (by omega) (by omega) (by omega)) (own_roomN ho1 (show out1.length<=1000000 by omega)) hgm h67 hwn7 HG7.out);have k7:=hST4.b7.cell;have f7:=hST4.b7.frozen;have l7:=hST4.b7.lt;clear ho1 hm4 hbar4 hST4;go_upto_region 8 with fail;obtain ⟨W5,e5⟩:∃ z,z=w4.setCell ⟨n7,14,none⟩ (.slice a1 out1.length k1):=⟨_,rfl⟩;rw [<-e5] at HST5;rw [<-e5];clear e5 k7 f7 l7 HST4;have hrl:rs1.length<=65536:=HRS1.out;have CT:=h_ (fun (W:World)=>show Calls Tryz.prog 50 #[.string (bs rs1),.string ⟨#[32,9,10]⟩] W (fun e w'=>e=.returned (.string (bs (skipB rs1)))/\Below W.heap.size W w') from ttrimL (bs rs1) W);have hsk:=skip_len rs1;obtain ⟨tr,htr⟩:∃ z,z=skipB rs1:=⟨_,rfl⟩;have hYY:=HYY.out;have hK:=HK.out;clear HK;rw [<-htr] at CT hsk hYY hK;have CW:=h_ (fun (W:World)=>tword (bs tr) W (by rw [bs_size];omega))
 simp only at CW
 have hmo:(nameT tr).data.toList=wordL tr:=rfl;obtain ⟨mo,hmo2⟩:∃ z,z=nameT tr:=⟨_,rfl⟩;obtain ⟨tl,htl⟩:∃ z,z=nameD tr:=⟨_,rfl⟩
 have htl2:tl.length<=tr.length:=by rw [htl];exact nameD_le tr
 rw [<-hmo2,<-htl] at CW;rw [<-hmo2] at hmo;have HMO:=h_ hmo;have HK:=h_ hK;clear hK;rw [<-hmo,<-htl] at hYY;have HYY:=h_ hYY;have HTR:=h_ htr;clear hYY hmo hmo2 htl htr;go_wp2_with fail
 refine (CT.out _).mono ?_
 rintro e w5 ⟨rfl,hb5⟩;have HST6:=h_ (HST5.out.below hb5 hgl hgm hn6g hn7g);clear hb5 HST5;go_wp2_with fail
 refine (CW.out _).mono ?_
 rintro e w6 ⟨rfl,hb6⟩;have HST:=h_ (HST6.out.below hb6 hgl hgm hn6g hn7g);clear hb6 HST6;go_upto_region 9 with fail;have hl4:=HST.out.mkr.le;obtain ⟨sv,hsv⟩:∃ z,z=bs st1:=⟨_,rfl⟩;rw [<-hsv];obtain ⟨rv,hrv⟩:∃ z,z=bs rs1:=⟨_,rfl⟩;rw [<-hrv] at CT ⊢;obtain ⟨tv,htv⟩:∃ z,z=bs tr:=⟨_,rfl⟩;rw [<-htv] at CT ⊢
 have hsl:∀ l:LB_,(sv.toList==l)=decide (st1=l):=fun l=>by rw [word_eq,hsv]
 have htl3:tv.toList.isEmpty=decide (tr=[]):=by rw [empty_eq,htv]
 have HSL:=h_ hsl;have HTL:=h_ htl3;have HRV:=h_ hrv;have HTV:=h_ htv;clear hsv hrv htv hsl htl3
 have hdd:0<=m2.deep/\m2.deep<=2000000:=by omega
 obtain ⟨c1,c2,c3,c4⟩:st1=elseW/\wd.data.toList=ifW/\wordL tr≠ifW/\tr=[]:=HK.out;rw [<-HMO.out] at c3;clear HK HMO
 have g1:(sv.toList==[101,108,115,101])=true:=by rw [HSL.out];exact decide_eq_true c1
 have g2:(wd.toList==[105,102])=true:=by rw [word_eq];exact decide_eq_true c2
 have g3:(mo.toList==[105,102])=false:=by rw [word_eq];exact decide_eq_false c3
 have g4:(wd.toList==[100,101,102,105,110,101])=false:=by rw [word_eq,c2];decide
 have c5:wd.data.toList≠defineW:=by rw [c2];decide
 have hYY:=HYY.out;rw [if_neg (fun h=>c3 h.2.2),if_pos ⟨c1,c5,c4⟩] at hYY
 have ge:tv.toList.isEmpty=true:=by rw [HTL.out];exact decide_eq_true c4
 have CN:=fun (W:World) (hM:MkAt W gm A c toks m2) (hS:ScalV W)=>HNH.out n (Nat.le_refl _) m2 W (by omega) ⟨by omega,by omega⟩ hM hS
 have hle3:=((nodes_le n).1 [] m2).1;have hct3:=nodes_cnt n [] m2;obtain ⟨⟨⟨out2,st2,rs2⟩,m3⟩,hN⟩:∃ z,z=nodesF n [] m2:=⟨_,rfl⟩;have hE:=HE.out;rw [<-hN] at CN hYY hle3 hct3 hE
 simp only at CN hYY hle3 hct3 hE
 clear HE;have HE:=h_ hE;clear hE;rw [List.length_nil] at hct3;have l8:=hle3.len;have l9:=hle3.low;have l10:=hle3.sum;have CNN:=h_ CN;have HYX:=h_ hYY;clear CN hN hle3 hYY HYY c1 c4 c5 c2 c3;go_wp2_with fail
 refine (CT.out _).mono ?_
 rintro e w7 ⟨rfl,hb7⟩;have HST7:=h_ (HST.out.below hb7 hgl hgm hn6g hn7g);have hw7:=hb7.size;have hl7:=HST.out.b7.lt;clear hb7 HST;go_wp2_with fail
 refine (CNN.out _ HST7.out.mkr HST7.out.sv).mono ?_
 rintro e w8 ⟨a2,k2,rfl,ho2,hm8,hbar8⟩;have hST8:=HST7.out.step hbar8 hm8 hgl hgm hn6g hn7g;have hST9:=hST8.setE (rep_behind ho2 (by omega) (by omega) (by omega)) (own_roomN ho2 (show out2.length<=1000000 by omega)) hgm h67 hwn7 HG7.out;have HSTX:=h_ hST9;have k7:=hST8.b7.cell;have f7:=hST8.b7.frozen;have l7:=hST8.b7.lt;clear ho2 hm8 hbar8 hST8 hST9 HST7;go_upto_region 15 with fail;obtain ⟨sv2,hsv2⟩:∃ z,z=bs st2:=⟨_,rfl⟩;rw [<-hsv2];obtain ⟨rv2,hrv2⟩:∃ z,z=bs rs2:=⟨_,rfl⟩;rw [<-hrv2]
 have hsl2:∀ l:LB_,(sv2.toList==l)=decide (st2=l):=fun l=>by rw [word_eq,hsv2]
 have HSL2:=h_ hsl2;have HRV2:=h_ hrv2;clear hsv2 hrv2 hsl2;obtain ⟨WX,eX⟩:∃ z,z=w8.setCell ⟨n7,15,none⟩ (.slice a2 out2.length k2):=⟨_,rfl⟩;rw [<-eX] at HSTX;rw [<-eX];clear eX k7 f7 l7;have e1:¬ st2=endW:=HE.out;clear HE
 have ge1:(sv2.toList==[101,110,100])=false:=by rw [HSL2.out];exact decide_eq_false e1
 have HZ:=h_ (show Y0=(((nd1.setBody out1).setEls out2),(Mk.fail m3 21).up) from by rw [HYX.out,if_pos (.inl e1)]);clear e1 HYX
 have hmY:0<=(Mk.fail m3 21).deep/\(Mk.fail m3 21).deep<=2000000:=show 0<=Mk.deep m3/\Mk.deep m3<=2000000 from by omega
 go_wp2_with fail
 refine (mfail gm A c toks m3 21 _ HSTX.out.mkr).mono ?_
 rintro e w12 ⟨rfl,hm12,hbar12⟩;have HSTX2:=h_ (HSTX.out.step hbar12 hm12 hgl hgm hn6g hn7g);clear HSTX hm12 hbar12;have HSTX:=HSTX2;clear HSTX2;obtain ⟨mY,emY⟩:∃ z,z=Mk.fail m3 21:=⟨_,rfl⟩;rw [<-emY] at HSTX hmY HZ;clear emY;go_upto_region 17 with fail;have hwk:IntKind.i64.wrap (mY.deep - 1)=mY.deep - 1:=wrap_fit (by omega) (by omega);have HSTY:=h_ (HSTX.out.deep (mY.deep - 1) hgl hgm hn6g hn7g);have km:=HSTX.out.mkr.blk.cell;have fm:=HSTX.out.mkr.blk.frozen;have lm:=HSTX.out.mkr.blk.lt;go_upto_region 18 with fail;obtain ⟨WY,eY⟩:∃ z,z=World.setCell w12 ⟨gm,2,none⟩ (.int .i64 (mY.deep - 1)):=⟨_,rfl⟩;rw [<-eY] at HSTY;rw [<-eY];clear eY km fm lm HSTX hwk;have k7:=HSTY.out.b7.cell;have f7:=HSTY.out.b7.frozen;have l7:=HSTY.out.b7.lt;have k6:=HSTY.out.b6.cell;have f6:=HSTY.out.b6.frozen;have l6:=HSTY.out.b6.lt;go_wp2_with fail
 refine ret_cell (p:=6) (g:=n6) rfl rfl (blk_set16 (w:=WY) HSTY.out.b6) Tryz.underlying64 (by kernel_rfl) rfl ?_
 rw [HZ.out]
 exact BkSt.post hgm hwn6 HSTY.out (bar_set16 _ _ _ _ _ _ _ _ _ _ _ _ _ _ _ _ _ _)
theorem bl_case2 (gm:Nat) (A:OA_) (c:Nat) (toks:List Tok) (m0:Mk) (wd s:ByteArray) (w:World) (hw4:wd.data.toList=ifW\/wd.data.toList=withW\/wd.data.toList=rangeW\/wd.data.toList=defineW) (h:MkAt w gm A c toks m0) (hv:ScalV w) (hs1:0<=m0.deep) (hs0:m0.deep+m0.rest.length < 1000000) (hgl:Glob gm) (hfit:Fit toks) (THEAD:∀ (m:Mk) (W:World),MkAt W gm A c toks m->ScalV W->Calls Tryz.prog 80 #[.pointer (some ⟨gm,0,none⟩),.string wd,.string s] W (NdPost gm A c toks (headF wd.data.toList s.data.toList m).1 (headF wd.data.toList s.data.toList m).2 W)) {n:Nat} (hf:2*m0.rest.length+2<=n+1) (HN:NoOk gm A c toks n) (HB:BlOk gm A c toks n) (hdp:¬ 16 < m0.deep+1) (hK:BCase 2 (nodesF n [] (headF wd.data.toList s.data.toList ⟨m0.rest,m0.deep+1,m0.bad⟩).2).1.stop wd.data.toList (skipB (nodesF n [] (headF wd.data.toList s.data.toList ⟨m0.rest,m0.deep+1,m0.bad⟩).2).1.rest)):Calls Tryz.prog 57 #[.pointer (some ⟨gm,0,none⟩),.string wd,.string s] w (NdPost gm A c toks (blockF (n+1) wd.data.toList s.data.toList m0).1 (blockF (n+1) wd.data.toList s.data.toList m0).2 w):=by
 obtain ⟨Y0,hY0⟩:∃ z,z=blockF (n+1) wd.data.toList s.data.toList m0:=⟨_,rfl⟩;rw [<-hY0];obtain ⟨rest,d,b⟩:=m0;rw [blockF] at hY0
 simp only at hY0 hf hK
 simp only at hs0 hs1
 have HDP:=h_ (show ¬ 16 < d+1 from hdp);clear hdp;have hgm:=h.blk.lt
 have hglob:∀ g,w.heap.size<=g->Glob g:=fun g hg=>hv.glob hg
 have hb0:Below w.heap.size w (w.alloc (.cells #[.int .i64 0,.string ⟨#[]⟩,.int .i64 0,.int .i64 0,.bool false,.int .i64 0,.string ⟨#[]⟩,.slice none 0 0,.slice none 0 0,.string ⟨#[]⟩,.slice none 0 0,.slice none 0 0,.string ⟨#[]⟩,.string ⟨#[]⟩,.slice none 0 0,.slice none 0 0] 64)):=Below.new _ _;have H0:=h_ (h.keep hb0);have HX0:=h_ (show Blk (w.alloc (.cells #[.int .i64 0,.string ⟨#[]⟩,.int .i64 0,.int .i64 0,.bool false,.int .i64 0,.string ⟨#[]⟩,.slice none 0 0,.slice none 0 0,.string ⟨#[]⟩,.slice none 0 0,.slice none 0 0,.string ⟨#[]⟩,.string ⟨#[]⟩,.slice none 0 0,.slice none 0 0] 64)) w.heap.size 64 #[.int .i64 0,.string ⟨#[]⟩,.int .i64 0,.int .i64 0,.bool false,.int .i64 0,.string ⟨#[]⟩,.slice none 0 0,.slice none 0 0,.string ⟨#[]⟩,.slice none 0 0,.slice none 0 0,.string ⟨#[]⟩,.string ⟨#[]⟩,.slice none 0 0,.slice none 0 0] from Blk.new _ _ _);have HB0:=h_ (Bar.of (gc:=gm) hb0);have HV0:=h_ (hv.keep hb0);have HY0:=h_ hY0;have HVW:=h_ hv;have HBH:=h_ HB;have HNH:=h_ HN;have HTH:=h_ THEAD;have HGL:=h_ hglob;have HW4:=h_ hw4;clear h hv HB HN THEAD hglob hY0 hw4;obtain ⟨W0,e0⟩:∃ z,z=w.alloc (.cells #[.int .i64 0,.string ⟨#[]⟩,.int .i64 0,.int .i64 0,.bool false,.int .i64 0,.string ⟨#[]⟩,.slice none 0 0,.slice none 0 0,.string ⟨#[]⟩,.slice none 0 0,.slice none 0 0,.string ⟨#[]⟩,.string ⟨#[]⟩,.slice none 0 0,.slice none 0 0] 64):=⟨_,rfl⟩;obtain ⟨n6,e6⟩:∃ z,z=w.heap.size:=⟨_,rfl⟩;rw [<-e0] at H0 HX0 HB0 HV0;rw [<-e6] at HX0
 have hn6g:n6≠gm:=by omega
 have hwn6:w.heap.size<=n6:=by omega
 have E0:=h_ e0;have E6:=h_ e6;clear e0 e6 hb0;have hwk:IntKind.i64.wrap (d+1)=d+1:=wrap_fit (by omega) (by omega);have km:=H0.out.blk.cell;have fm:=H0.out.blk.frozen;have lm:=H0.out.blk.lt
 go_enter Tryz.func57,Tryz.ntmps57
 refine wp_seq_cut (fun K0 hK0=>?_)
 go_wp2_with fail
 refine hK0.out _ _ ?_
 rw [<-E0.out,<-E6.out];clear E0 hK0 K0;have HM1:=h_ (show MkAt (W0.setCell ⟨gm,2,none⟩ (.int .i64 (d+1))) gm A c toks ⟨rest,d+1,b⟩ from ⟨H0.out.blk.set_ 2 (.int .i64 (d+1)),H0.out.rest,H0.out.toks.barM (Bar.set gm 2 _)⟩);have HB1:=h_ (HB0.out.trans (Bar.set gm 2 (.int .i64 (d+1))));have HX1:=h_ (HX0.out.far (p:=⟨gm,2,none⟩) hn6g (.int .i64 (d+1)));have HV1:=h_ (HV0.out.bar (Bar.set gm 2 (.int .i64 (d+1))) hgl);go_upto_region 2 with fail;obtain ⟨W1,e1⟩:∃ z,z=W0.setCell ⟨gm,2,none⟩ (.int .i64 (d+1)):=⟨_,rfl⟩;rw [<-e1] at HM1 HB1 HX1 HV1;rw [<-e1];clear e1 km fm lm H0 HB0 HX0 HV0;have km:=HM1.out.blk.cell;have fm:=HM1.out.blk.frozen;have lm:=HM1.out.blk.lt
 have hdp:¬ 16 < d+1:=by have:=HDP.out;omega
 clear HDP;have hYY:=HY0.out;rw [if_neg hdp] at hYY
 have hdp2:d+1<=16:=by omega
 have gd:decide (d+1>16)=false:=decide_eq_false hdp;have CH:=HTH.out _ _ HM1.out HV1.out;have hle1:=headF_le wd.data.toList s.data.toList ⟨rest,d+1,b⟩;obtain ⟨⟨nd1,m1⟩,hH1⟩:∃ z,z=headF wd.data.toList s.data.toList ⟨rest,d+1,b⟩:=⟨_,rfl⟩;rw [<-hH1] at CH hYY hle1 hK
 simp only at CH hYY hle1 hK
 have HK:=h_ hK;clear hK;have l1:=hle1.len;have l2:=hle1.low;have l3:=hle1.sum
 simp only at l1 l2 l3
 have CHH:=h_ CH;have HYY:=h_ hYY;clear CH hYY hH1 hle1 HY0 hwk HTH;go_wp2_with fail
 refine CHH.out.mono ?_
 rintro e w2 ⟨cs,rfl,hx2,hm2,hbar2⟩;obtain ⟨la,lc,ma,mc,sa,sc,aa,ac,ba,bc,ea,ec,rfl,hp2⟩:=hx2.inv;have hb7:=Below.new w2 (.cells (aN nd1 la lc ma mc sa sc aa ac ba bc ea ec) 64);have hl6:=HX1.out.lt;have hbs:=hbar2.size;have hws:=HB1.out.size;have HST:=h_ (show BkSt w (w2.alloc (.cells (aN nd1 la lc ma mc sa sc aa ac ba bc ea ec) 64)) gm A c toks n6 w2.heap.size m1 la lc ma mc sa sc aa ac ba bc ea ec nd1 from ⟨hm2.keep hb7,(HB1.out.trans hbar2).trans (Bar.of hb7),(HV1.out.bar hbar2 hgl).keep hb7,(hbar2.blk HX1.out hn6g).keep hb7,Blk.new _ _ _,hp2.mono (fun b hb hlt=>⟨by omega,by omega,by omega⟩) (fun b o hb hlt=>hb7.cell hlt)⟩)
 have hn7:n6 < w2.heap.size:=by omega
 clear hx2 hm2 hp2 hbar2 hb7 km fm lm;unfold aN at *;go_upto_region 6 with fail;obtain ⟨W3,e3⟩:∃ z,z=w2.alloc (.cells #[.int .i64 nd1.kind,.string nd1.text,.int .i64 nd1.x.kind,.int .i64 nd1.x.val.kind,.bool nd1.x.val.bool,.int .i64 nd1.x.val.int,.string nd1.x.val.str,.slice la nd1.x.val.list.length lc,.slice ma nd1.x.val.map.length mc,.string nd1.x.name,.slice sa nd1.x.steps.length sc,.slice aa nd1.x.args.length ac,.string nd1.key,.string nd1.name,.slice ba nd1.body.length bc,.slice ea nd1.els.length ec] 64):=⟨_,rfl⟩;obtain ⟨n7,e7⟩:∃ z,z=w2.heap.size:=⟨_,rfl⟩;rw [<-e3,<-e7] at HST;rw [<-e7] at hn7;rw [<-e3,<-e7]
 have hn7g:n7≠gm:=by omega
 have hwn7:w.heap.size<=n7:=by omega
 have HG7:=h_ (HGL.out n7 hwn7);clear e3 e7 hbs hws hl6;have CN:=HNH.out n (Nat.le_refl _) m1 W3 (by omega) ⟨by omega,by omega⟩ HST.out.mkr HST.out.sv;have HRS1:=h_ (show (nodesF n [] m1).1.rest.length<=65536 from ((nodes_suf n).1 [] m1).2 65536 (fun t ht=>hfit t (by have h9:=HST.out.mkr.rest;rw [h9] at ht;exact List.mem_of_mem_drop ht)));have hle2:=((nodes_le n).1 [] m1).1;have hst2:=((nodes_le n).1 [] m1).2;have hlt2:=nodes_lt n [] m1;have hct2:=nodes_cnt n [] m1;obtain ⟨⟨⟨out1,st1,rs1⟩,m2⟩,hN1⟩:∃ z,z=nodesF n [] m1:=⟨_,rfl⟩;have hYY:=HYY.out;have hK:=HK.out;clear HK;rw [<-hN1] at CN hYY hle2 hst2 hlt2 hct2 HRS1 hK
 simp only at CN hYY hle2 hst2 hlt2 hct2 hK
 have HK:=h_ hK;clear hK;rw [List.length_nil] at hct2;have l4:=hle2.len;have l5:=hle2.low;have l6:=hle2.sum;have HST2:=h_ hst2;have HLT2:=h_ hlt2;have CNN:=h_ CN;clear CN hN1 hle2 HYY hst2 hlt2;have HYY:=h_ hYY;clear hYY;go_wp2_with fail
 refine CNN.out.mono ?_
 rintro e w4 ⟨a1,k1,rfl,ho1,hm4,hbar4⟩
 have h67:n6≠n7:=by omega
 have hl7:=HST.out.b7.lt;have hST4:=HST.out.step hbar4 hm4 hgl hgm hn6g hn7g;have HST4:=h_ hST4;have HST5:=h_ (hST4.setB (rep_behind ho1 (by omega) (by omega) (by omega)) (own_roomN ho1 (show out1.length<=1000000 by omega)) hgm h67 hwn7 HG7.out);have k7:=hST4.b7.cell;have f7:=hST4.b7.frozen;have l7:=hST4.b7.lt;clear ho1 hm4 hbar4 hST4;go_upto_region 8 with fail;obtain ⟨W5,e5⟩:∃ z,z=w4.setCell ⟨n7,14,none⟩ (.slice a1 out1.length k1):=⟨_,rfl⟩;rw [<-e5] at HST5;rw [<-e5];clear e5 k7 f7 l7 HST4;have hrl:rs1.length<=65536:=HRS1.out;have CT:=h_ (fun (W:World)=>show Calls Tryz.prog 50 #[.string (bs rs1),.string ⟨#[32,9,10]⟩] W (fun e w'=>e=.returned (.string (bs (skipB rs1)))/\Below W.heap.size W w') from ttrimL (bs rs1) W);have hsk:=skip_len rs1;obtain ⟨tr,htr⟩:∃ z,z=skipB rs1:=⟨_,rfl⟩;have hYY:=HYY.out;have hK:=HK.out;clear HK;rw [<-htr] at CT hsk hYY hK;have CW:=h_ (fun (W:World)=>tword (bs tr) W (by rw [bs_size];omega))
 simp only at CW
 have hmo:(nameT tr).data.toList=wordL tr:=rfl;obtain ⟨mo,hmo2⟩:∃ z,z=nameT tr:=⟨_,rfl⟩;obtain ⟨tl,htl⟩:∃ z,z=nameD tr:=⟨_,rfl⟩
 have htl2:tl.length<=tr.length:=by rw [htl];exact nameD_le tr
 rw [<-hmo2,<-htl] at CW;rw [<-hmo2] at hmo;have HMO:=h_ hmo;have HK:=h_ hK;clear hK;rw [<-hmo,<-htl] at hYY;have HYY:=h_ hYY;have HTR:=h_ htr;clear hYY hmo hmo2 htl htr;go_wp2_with fail
 refine (CT.out _).mono ?_
 rintro e w5 ⟨rfl,hb5⟩;have HST6:=h_ (HST5.out.below hb5 hgl hgm hn6g hn7g);clear hb5 HST5;go_wp2_with fail
 refine (CW.out _).mono ?_
 rintro e w6 ⟨rfl,hb6⟩;have HST:=h_ (HST6.out.below hb6 hgl hgm hn6g hn7g);clear hb6 HST6;go_upto_region 9 with fail;have hl4:=HST.out.mkr.le;obtain ⟨sv,hsv⟩:∃ z,z=bs st1:=⟨_,rfl⟩;rw [<-hsv];obtain ⟨rv,hrv⟩:∃ z,z=bs rs1:=⟨_,rfl⟩;rw [<-hrv] at CT ⊢;obtain ⟨tv,htv⟩:∃ z,z=bs tr:=⟨_,rfl⟩;rw [<-htv] at CT ⊢
 have hsl:∀ l:LB_,(sv.toList==l)=decide (st1=l):=fun l=>by rw [word_eq,hsv]
 have htl3:tv.toList.isEmpty=decide (tr=[]):=by rw [empty_eq,htv]
 have HSL:=h_ hsl;have HTL:=h_ htl3;have HRV:=h_ hrv;have HTV:=h_ htv;clear hsv hrv htv hsl htl3
 have hdd:0<=m2.deep/\m2.deep<=2000000:=by omega
 obtain ⟨c1,c2,c3,c4⟩:st1=elseW/\wd.data.toList=ifW/\wordL tr≠ifW/\tr≠[]:=HK.out;rw [<-HMO.out] at c3;clear HK HMO
 have g1:(sv.toList==[101,108,115,101])=true:=by rw [HSL.out];exact decide_eq_true c1
 have g2:(wd.toList==[105,102])=true:=by rw [word_eq];exact decide_eq_true c2
 have g3:(mo.toList==[105,102])=false:=by rw [word_eq];exact decide_eq_false c3
 have g4:(wd.toList==[100,101,102,105,110,101])=false:=by rw [word_eq,c2];decide
 have c5:wd.data.toList≠defineW:=by rw [c2];decide
 have hYY:=HYY.out;rw [if_neg (fun h=>c3 h.2.2),if_neg (fun h=>c4 h.2.2)] at hYY;have HYX:=h_ hYY;clear hYY HYY
 have ge:tv.toList.isEmpty=false:=by rw [HTL.out];exact decide_eq_false c4
 have hne:st1≠endW:=by rw [c1];decide
 clear c1 c4 c2 c3 c5;go_wp2_with fail
 refine (CT.out _).mono ?_
 rintro e w7 ⟨rfl,hb7⟩;have HSTX:=h_ (HST.out.below hb7 hgl hgm hn6g hn7g);clear hb7 HST;go_upto_region 15 with fail
 have ge1:(sv.toList==[101,110,100])=false:=by rw [HSL.out];exact decide_eq_false hne
 have HZ:=h_ (show Y0=(nd1.setBody out1,(Mk.fail m2 21).up) from by rw [HYX.out,if_pos (.inl hne)]);clear hne HYX
 have hmY:0<=(Mk.fail m2 21).deep/\(Mk.fail m2 21).deep<=2000000:=show 0<=Mk.deep m2/\Mk.deep m2<=2000000 from by omega
 go_wp2_with fail
 refine (mfail gm A c toks m2 21 _ HSTX.out.mkr).mono ?_
 rintro e w12 ⟨rfl,hm12,hbar12⟩;have HSTX2:=h_ (HSTX.out.step hbar12 hm12 hgl hgm hn6g hn7g);clear HSTX hm12 hbar12;have HSTX:=HSTX2;clear HSTX2;obtain ⟨mY,emY⟩:∃ z,z=Mk.fail m2 21:=⟨_,rfl⟩;rw [<-emY] at HSTX hmY HZ;clear emY;go_upto_region 17 with fail;have hwk:IntKind.i64.wrap (mY.deep - 1)=mY.deep - 1:=wrap_fit (by omega) (by omega);have HSTY:=h_ (HSTX.out.deep (mY.deep - 1) hgl hgm hn6g hn7g);have km:=HSTX.out.mkr.blk.cell;have fm:=HSTX.out.mkr.blk.frozen;have lm:=HSTX.out.mkr.blk.lt;go_upto_region 18 with fail;obtain ⟨WY,eY⟩:∃ z,z=World.setCell w12 ⟨gm,2,none⟩ (.int .i64 (mY.deep - 1)):=⟨_,rfl⟩;rw [<-eY] at HSTY;rw [<-eY];clear eY km fm lm HSTX hwk;have k7:=HSTY.out.b7.cell;have f7:=HSTY.out.b7.frozen;have l7:=HSTY.out.b7.lt;have k6:=HSTY.out.b6.cell;have f6:=HSTY.out.b6.frozen;have l6:=HSTY.out.b6.lt;go_wp2_with fail
 refine ret_cell (p:=6) (g:=n6) rfl rfl (blk_set16 (w:=WY) HSTY.out.b6) Tryz.underlying64 (by kernel_rfl) rfl ?_
 rw [HZ.out]
 exact BkSt.post hgm hwn6 HSTY.out (bar_set16 _ _ _ _ _ _ _ _ _ _ _ _ _ _ _ _ _ _)
end Go.Proofs.YtnblmhfgmehnnaaGreatDoor
