/- Several texts as one. -/
import Derived.Test.YtnblmhfgmehnnaaGreatDoorPeFo
import Derived.Test.YtnblmhfgmehnnaaGreatDoorPeMv
import Derived.Test.YtnblmhfgmehnnaaGreatDoorPeAV
import Derived.Test.YtnblmhfgmehnnaaGreatDoorPeAC
set_option maxRecDepth 100000
set_option maxHeartbeats 16000000
namespace Go.Proofs.YtnblmhfgmehnnaaGreatDoor
open Go.RowKit Go.Lib
attribute [local go_sem ↓] Go.wp_at_zero Go.wp_at_succ
theorem ba_app (a b:ByteArray):(a++b).data.toList=a.data.toList++b.data.toList:=by simp only [ByteArray.data_append,Array.toList_append]
theorem blk_eq {L:LB_} {h:LB_ × Nat} {body rest:Nat->List Pc × Nat} {c1 c2 c3:List Pc} {a3 a4 a5:Nat} (e3:(c1,a3)=actW L h.1 h.2) (e4:(c2,a4)=body a3) (e5:(c3,a5)=rest a4):blkW L h body rest=(c1++(c2++c3),a5):=by
 unfold blkW;rw [<-e3]
 simp only
 rw [<-e4]
 simp only
 rw [<-e5]
theorem nd_k0 {gs:Nat} {A:OA_} {c:Nat} {L:LB_} {n:Nat} {x:Nd} {a:Nat} {W:World} {S:Nat->Prop} {la:OA_} {lc:Nat} {ma:OA_} {mc:Nat} {sa:OA_} {sc:Nat} {aa:OA_} {ac:Nat} {ba:OA_} {bc:Nat} {ea:OA_} {ec:Nat} (hp:PartsN W S la lc ma mc sa sc aa ac ba bc ea ec x) (h:StAt W gs A c L a) (hS:∀ b,S b->b≠gs) (hk:x.kind=0):
  Calls Tryz.prog 26 #[.pointer (some ⟨gs,0,none⟩),.agg #[.int .i64 x.kind,.string x.text,.int .i64 x.x.kind,.int .i64 x.x.val.kind,.bool x.x.val.bool,.int .i64 x.x.val.int,.string x.x.val.str,.slice la x.x.val.list.length lc,.slice ma x.x.val.map.length mc,.string x.x.name,.slice sa x.x.steps.length sc,.slice aa x.x.args.length ac,.string x.key,.string x.name,.slice ba x.body.length bc,.slice ea x.els.length ec]] W (WrPost gs A c L (flatP (ndW L (n+1) x a).1,(ndW L (n+1) x a).2) W):=by
 have hwo:wtNo x=1+x.text.size+x.name.size+x.key.size+wtX 6 x.x:=rfl;have hwp:=wtX_pos (d:=6) x.x;have kws:=size_list x.key;have kwn:=size_list x.name;have hgs:=h.blk.lt;have hba:=Below.new W (.cells (aN x la lc ma mc sa sc aa ac ba bc ea ec) 70);have h0:=Blk.new W 70 (aN x la lc ma mc sa sc aa ac ba bc ea ec);have HS:=h_ (h.keep hba);have HB:=h_ (Bar.of (gc:=gs) hba);have H0:=h_ h0;have HXX:=h_ (hp.x.keep hba);have hpn:=hp.name;obtain ⟨W1,e1W⟩:∃ z,z=W.alloc (.cells (aN x la lc ma mc sa sc aa ac ba bc ea ec) 70):=⟨_,rfl⟩;obtain ⟨n3,e3W⟩:∃ z,z=W.heap.size:=⟨_,rfl⟩;rw [<-e1W] at HS HB H0 HXX;rw [<-e3W] at H0
 have hn3:n3≠gs:=by omega
 have E1:=h_ e1W;have E3:=h_ e3W;have HHS:=h_ hS;clear hba h0 e1W e3W
 have gk0:(x.kind==0)=true:=by rw [hk];rfl
 have HF:=h_ (show ndW L (n+1) x a=([.t x.text.data.toList],a) from by rw [ndW,if_pos hk]);clear hpn hp h hS hwo hwp kws kwn hgs hk hn3;have k0:=H0.out.cell;have f0:=H0.out.frozen;have l0:=H0.out.lt;unfold aN at *
 go_enter Tryz.func26,Tryz.ntmps26
 go_upto_region 1 with fail;rw [<-E1.out,<-E3.out];clear E1 E3;go_wp2_with fail;go_ret;rw [HF.out]
 exact ⟨by simp [flatP,Pc.flat],HS.out,HB.out⟩
theorem nd_k1 {gs:Nat} {A:OA_} {c:Nat} {L:LB_} {n:Nat} {x:Nd} {a:Nat} {W:World} {S:Nat->Prop} {la:OA_} {lc:Nat} {ma:OA_} {mc:Nat} {sa:OA_} {sc:Nat} {aa:OA_} {ac:Nat} {ba:OA_} {bc:Nat} {ea:OA_} {ec:Nat} (hr:RightX 6 x.x) (hp:PartsN W S la lc ma mc sa sc aa ac ba bc ea ec x) (h:StAt W gs A c L a) (hS:∀ b,S b->b≠gs) (hk:x.kind=1) (ha:a+20*(wtNo x)<=1000000000) (hz:100*(wtNo x)<=1000000):
  Calls Tryz.prog 26 #[.pointer (some ⟨gs,0,none⟩),.agg #[.int .i64 x.kind,.string x.text,.int .i64 x.x.kind,.int .i64 x.x.val.kind,.bool x.x.val.bool,.int .i64 x.x.val.int,.string x.x.val.str,.slice la x.x.val.list.length lc,.slice ma x.x.val.map.length mc,.string x.x.name,.slice sa x.x.steps.length sc,.slice aa x.x.args.length ac,.string x.key,.string x.name,.slice ba x.body.length bc,.slice ea x.els.length ec]] W (WrPost gs A c L (flatP (ndW L (n+1) x a).1,(ndW L (n+1) x a).2) W):=by
 have hwo:wtNo x=1+x.text.size+x.name.size+x.key.size+wtX 6 x.x:=rfl;have hwp:=wtX_pos (d:=6) x.x;have kws:=size_list x.key;have kwn:=size_list x.name;have hgs:=h.blk.lt;have hba:=Below.new W (.cells (aN x la lc ma mc sa sc aa ac ba bc ea ec) 70);have h0:=Blk.new W 70 (aN x la lc ma mc sa sc aa ac ba bc ea ec);have HS:=h_ (h.keep hba);have HB:=h_ (Bar.of (gc:=gs) hba);have H0:=h_ h0;have HXX:=h_ (hp.x.keep hba);have hpn:=hp.name;obtain ⟨W1,e1W⟩:∃ z,z=W.alloc (.cells (aN x la lc ma mc sa sc aa ac ba bc ea ec) 70):=⟨_,rfl⟩;obtain ⟨n3,e3W⟩:∃ z,z=W.heap.size:=⟨_,rfl⟩;rw [<-e1W] at HS HB H0 HXX;rw [<-e3W] at H0
 have hn3:n3≠gs:=by omega
 have E1:=h_ e1W;have E3:=h_ e3W;have HHS:=h_ hS;clear hba h0 e1W e3W;have gk0:(x.kind==0)=false:=bf_ (by omega)
 have gk1:(x.kind==1)=true:=by rw [hk];rfl
 have hl1:=pip_len L 7 6 x.x a hr (by omega);obtain ⟨⟨v1,a1⟩,e1⟩:∃ z,z=pipW L 7 x.x a:=⟨_,rfl⟩;rw [<-e1] at hl1
 simp only at hl1
 obtain ⟨s1,hs1⟩:∃ z,z=bs v1:=⟨_,rfl⟩
 have z1:s1.size<=1000000:=by rw [hs1,bs_size];omega
 have q1:s1.size=v1.length:=by rw [hs1,bs_size]
 have C1:=h_ (fun (w2:World) (h2:StAt w2 gs A c L a) (h3:Bar W1 w2 gs)=>show Calls Tryz.prog 18 #[.pointer (some ⟨gs,0,none⟩),.agg (aX x.x la lc ma mc sa sc aa ac)] w2 (fun e w'=>e=.returned (.string s1)/\StAt w' gs A c L a1/\Bar w2 w' gs) from by have h9:=wpipe_all (gs:=gs) (A:=A) (c:=c) (L:=L) 7 6 x.x a w2 S _ hr (by omega) h2 (HXX.out.bar h3 hS) hS (by omega) (by omega);unfold WrPost at h9;rw [<-e1] at h9;rw [hs1];exact h9);have hl2:=act_len L (v1) a1;obtain ⟨⟨v2,a2⟩,e2⟩:∃ z,z=actW L (v1) a1:=⟨_,rfl⟩;rw [<-e2] at hl2
 simp only at hl2
 obtain ⟨s2,hs2⟩:∃ z,z=bs (flatP v2):=⟨_,rfl⟩
 have t2:(s1:ByteArray).data.toList=v1:=by rw [hs1]
 have y2:(s1:ByteArray).size=s1.size:=by rfl
 have x2:(v1).length=s1.size:=by rw [<-t2,<-size_list]
 have z2:s2.size<=1000000:=by rw [hs2,bs_size];omega
 have C2:=h_ (fun (w2:World) (h2:StAt w2 gs A c L a1) (h3:Bar W1 w2 gs)=>show Calls Tryz.prog 46 #[.pointer (some ⟨gs,0,none⟩),.string (s1)] w2 (fun e w'=>e=.returned (.string s2)/\StAt w' gs A c L a2/\Bar w2 w' gs) from by have h9:=taction gs A c L a1 (s1) w2 h2 (by omega) (by omega);unfold WrPost at h9;rw [t2,<-e2] at h9;rw [hs2];exact h9);have HF:=h_ (show ndW L (n+1) x a=(v2,a2) from by rw [ndW,if_neg (by omega),if_pos hk,<-e1];exact e2.symm);have HFL:=h_ (show s2=bs (flatP (v2)) from by exact hs2);clear hpn hp h hS hwo hwp kws kwn hgs q1 t2 y2 x2 e1 hs1 hl1 e2 hs2 hl2 hk ha hz hr HXX;have k0:=H0.out.cell;have f0:=H0.out.frozen;have l0:=H0.out.lt;unfold aN aX at *
 go_enter Tryz.func26,Tryz.ntmps26
 go_upto_region 1 with fail;rw [<-E1.out,<-E3.out];clear E1 E3;go_wp2_with fail
 refine (C1.out _ HS.out (Bar.refl W1 gs)).mono ?_
 rintro e w1 ⟨rfl,ht1,hb1⟩;have HT1:=h_ ht1;have HR1:=h_ ((Bar.refl W1 gs).trans hb1);clear ht1 hb1;have H01:=h_ (HR1.out.blk H0.out hn3);clear k0 f0 l0;have k0:=H01.out.cell;have f0:=H01.out.frozen;have l0:=H01.out.lt;go_wp2_with fail
 refine (C2.out _ HT1.out HR1.out).mono ?_
 rintro e w2 ⟨rfl,ht2,hb2⟩;have HT2:=h_ ht2;have HR2:=h_ (HR1.out.trans hb2);clear ht2 hb2;have H02:=h_ (HR2.out.blk H0.out hn3);clear k0 f0 l0;have k0:=H02.out.cell;have f0:=H02.out.frozen;have l0:=H02.out.lt;go_wp2_with fail;go_ret;rw [HF.out]
 exact ⟨congrArg (fun s=>Ending.returned (Value.string s)) HFL.out,HT2.out,HB.out.trans HR2.out⟩
theorem nd_k2 {gs:Nat} {A:OA_} {c:Nat} {L:LB_} {n:Nat} {x:Nd} {a:Nat} {W:World} {S:Nat->Prop} {la:OA_} {lc:Nat} {ma:OA_} {mc:Nat} {sa:OA_} {sc:Nat} {aa:OA_} {ac:Nat} {ba:OA_} {bc:Nat} {ea:OA_} {ec:Nat} (hr:RightX 6 x.x) (hp:PartsN W S la lc ma mc sa sc aa ac ba bc ea ec x) (h:StAt W gs A c L a) (hS:∀ b,S b->b≠gs) (hk:x.kind=2) {sb:Nat} (hbl:LenB (wrW (ndW L n) x.body) (100*sb) (20*sb)) (CB:∀ (a':Nat) (w2:World),StAt w2 gs A c L a'->Bar W w2 gs->a'+20*sb<=1000000000->Calls Tryz.prog 11 #[.pointer (some ⟨gs,0,none⟩),.slice ba x.body.length bc] w2 (WrPost gs A c L (flatP (wrW (ndW L n) x.body a').1,(wrW (ndW L n) x.body a').2) w2)) {se:Nat} (hol:LenB (otW L n x) (50+100*se) (6+20*se)) (CO:∀ (a':Nat) (w2:World),StAt w2 gs A c L a'->Bar W w2 gs->a'+6+20*se<=1000000000->Calls Tryz.prog 47 #[.pointer (some ⟨gs,0,none⟩),.agg #[.int .i64 x.kind,.string x.text,.int .i64 x.x.kind,.int .i64 x.x.val.kind,.bool x.x.val.bool,.int .i64 x.x.val.int,.string x.x.val.str,.slice la x.x.val.list.length lc,.slice ma x.x.val.map.length mc,.string x.x.name,.slice sa x.x.steps.length sc,.slice aa x.x.args.length ac,.string x.key,.string x.name,.slice ba x.body.length bc,.slice ea x.els.length ec]] w2 (WrPost gs A c L (flatP (otW L n x a').1,(otW L n x a').2) w2)) (ha:a+20*(wtNo x+sb+se)<=1000000000) (hz:100*(wtNo x+sb+se)<=1000000):
  Calls Tryz.prog 26 #[.pointer (some ⟨gs,0,none⟩),.agg #[.int .i64 x.kind,.string x.text,.int .i64 x.x.kind,.int .i64 x.x.val.kind,.bool x.x.val.bool,.int .i64 x.x.val.int,.string x.x.val.str,.slice la x.x.val.list.length lc,.slice ma x.x.val.map.length mc,.string x.x.name,.slice sa x.x.steps.length sc,.slice aa x.x.args.length ac,.string x.key,.string x.name,.slice ba x.body.length bc,.slice ea x.els.length ec]] W (WrPost gs A c L (flatP (ndW L (n+1) x a).1,(ndW L (n+1) x a).2) W):=by
 have hwo:wtNo x=1+x.text.size+x.name.size+x.key.size+wtX 6 x.x:=rfl;have hwp:=wtX_pos (d:=6) x.x;have kws:=size_list x.key;have kwn:=size_list x.name;have hgs:=h.blk.lt;have hba:=Below.new W (.cells (aN x la lc ma mc sa sc aa ac ba bc ea ec) 70);have h0:=Blk.new W 70 (aN x la lc ma mc sa sc aa ac ba bc ea ec);have HS:=h_ (h.keep hba);have HB:=h_ (Bar.of (gc:=gs) hba);have H0:=h_ h0;have HXX:=h_ (hp.x.keep hba);have hpn:=hp.name;obtain ⟨W1,e1W⟩:∃ z,z=W.alloc (.cells (aN x la lc ma mc sa sc aa ac ba bc ea ec) 70):=⟨_,rfl⟩;obtain ⟨n3,e3W⟩:∃ z,z=W.heap.size:=⟨_,rfl⟩;rw [<-e1W] at HS HB H0 HXX;rw [<-e3W] at H0
 have hn3:n3≠gs:=by omega
 have E1:=h_ e1W;have E3:=h_ e3W;have HHS:=h_ hS;clear hba h0 e1W e3W;have gk0:(x.kind==0)=false:=bf_ (by omega);have gk1:(x.kind==1)=false:=bf_ (by omega)
 have gk2:(x.kind==2)=true:=by rw [hk];rfl
 have hl1:=gap_len L a;obtain ⟨⟨v1,a1⟩,e1⟩:∃ z,z=gapW L a:=⟨_,rfl⟩;rw [<-e1] at hl1
 simp only at hl1
 obtain ⟨s1,hs1⟩:∃ z,z=bs v1:=⟨_,rfl⟩
 have z1:s1.size<=2:=by rw [hs1,bs_size];exact hl1.1
 have q1:s1.size=v1.length:=by rw [hs1,bs_size]
 have C1:=h_ (fun (w2:World) (h2:StAt w2 gs A c L a) (h3:Bar W1 w2 gs)=>show Calls Tryz.prog 35 #[.pointer (some ⟨gs,0,none⟩)] w2 (fun e w'=>e=.returned (.string s1)/\StAt w' gs A c L a1/\Bar w2 w' gs) from by have h9:=tgap gs A c L a w2 h2 (by omega);rw [<-e1] at h9;rw [hs1];exact h9);have hl2:=pip_len L 7 6 x.x a1 hr (by omega);obtain ⟨⟨v2,a2⟩,e2⟩:∃ z,z=pipW L 7 x.x a1:=⟨_,rfl⟩;rw [<-e2] at hl2
 simp only at hl2
 obtain ⟨s2,hs2⟩:∃ z,z=bs v2:=⟨_,rfl⟩
 have z2:s2.size<=1000000:=by rw [hs2,bs_size];omega
 have q2:s2.size=v2.length:=by rw [hs2,bs_size]
 have C2:=h_ (fun (w2:World) (h2:StAt w2 gs A c L a1) (h3:Bar W1 w2 gs)=>show Calls Tryz.prog 18 #[.pointer (some ⟨gs,0,none⟩),.agg (aX x.x la lc ma mc sa sc aa ac)] w2 (fun e w'=>e=.returned (.string s2)/\StAt w' gs A c L a2/\Bar w2 w' gs) from by have h9:=wpipe_all (gs:=gs) (A:=A) (c:=c) (L:=L) 7 6 x.x a1 w2 S _ hr (by omega) h2 (HXX.out.bar h3 hS) hS (by omega) (by omega);unfold WrPost at h9;rw [<-e2] at h9;rw [hs2];exact h9);have hl3:=act_len L (([105,102]:LB_)++(v1++(v2))) a2;obtain ⟨⟨v3,a3⟩,e3⟩:∃ z,z=actW L (([105,102]:LB_)++(v1++(v2))) a2:=⟨_,rfl⟩;rw [<-e3] at hl3
 simp only at hl3
 obtain ⟨s3,hs3⟩:∃ z,z=bs (flatP v3):=⟨_,rfl⟩
 have t3:(⟨#[105,102]⟩++s1++s2:ByteArray).data.toList=([105,102]:LB_)++(v1++(v2)):=by rw [hs1,hs2];simp only [ba_app];simp
 have y3:(⟨#[105,102]⟩++s1++s2:ByteArray).size=2+s1.size+s2.size:=by simp only [ByteArray.size_append];rfl
 have x3:(([105,102]:LB_)++(v1++(v2))).length=2+s1.size+s2.size:=by rw [<-t3,<-size_list];exact y3
 have z3:s3.size<=1000000:=by rw [hs3,bs_size];omega
 have nf1:¬ 9223372036854775807 < 2+s1.size:=by omega
 have nf2:¬ 9223372036854775807 < 2+s1.size+s2.size:=by omega
 have C3:=h_ (fun (w2:World) (h2:StAt w2 gs A c L a2) (h3:Bar W1 w2 gs)=>show Calls Tryz.prog 46 #[.pointer (some ⟨gs,0,none⟩),.string (⟨#[105,102]⟩++s1++s2)] w2 (fun e w'=>e=.returned (.string s3)/\StAt w' gs A c L a3/\Bar w2 w' gs) from by have h9:=taction gs A c L a2 (⟨#[105,102]⟩++s1++s2) w2 h2 (by omega) (by omega);unfold WrPost at h9;rw [t3,<-e3] at h9;rw [hs3];exact h9);have hl4:=hbl a3;obtain ⟨⟨v4,a4⟩,e4⟩:∃ z,z=wrW (ndW L n) x.body a3:=⟨_,rfl⟩;rw [<-e4] at hl4
 simp only at hl4
 obtain ⟨s4,hs4⟩:∃ z,z=bs (flatP v4):=⟨_,rfl⟩
 have z4:s4.size<=1000000:=by rw [hs4,bs_size];omega
 have C4:=h_ (fun (w2:World) (h2:StAt w2 gs A c L a3) (h3:Bar W1 w2 gs)=>show Calls Tryz.prog 11 #[.pointer (some ⟨gs,0,none⟩),.slice ba x.body.length bc] w2 (fun e w'=>e=.returned (.string s4)/\StAt w' gs A c L a4/\Bar w2 w' gs) from by have h9:=CB a3 w2 h2 (HB.out.trans h3) (by omega);unfold WrPost at h9;rw [<-e4] at h9;rw [hs4];exact h9);have hl5:=hol a4;obtain ⟨⟨v5,a5⟩,e5⟩:∃ z,z=otW L n x a4:=⟨_,rfl⟩;rw [<-e5] at hl5
 simp only at hl5
 obtain ⟨s5,hs5⟩:∃ z,z=bs (flatP v5):=⟨_,rfl⟩
 have z5:s5.size<=1000000:=by rw [hs5,bs_size];omega
 have C5:=h_ (fun (w2:World) (h2:StAt w2 gs A c L a4) (h3:Bar W1 w2 gs)=>show Calls Tryz.prog 47 #[.pointer (some ⟨gs,0,none⟩),.agg (aN x la lc ma mc sa sc aa ac ba bc ea ec)] w2 (fun e w'=>e=.returned (.string s5)/\StAt w' gs A c L a5/\Bar w2 w' gs) from by have h9:=CO a4 w2 h2 (HB.out.trans h3) (by omega);unfold WrPost at h9;rw [<-e5] at h9;rw [hs5];exact h9)
 have hmid:midW L x a=gapW L a:=by unfold midW;rw [if_neg (by omega)]
 have hhd:headW L x a=(([105,102]:LB_)++(v1++(v2)),a2):=by unfold headW;rw [hmid,<-e1];simp only;rw [<-e2,hk];rfl
 have HF:=h_ (show ndW L (n+1) x a=(v3++(v4++v5),a5) from by rw [ndW,if_neg (by omega),if_neg (by omega),if_neg (by omega),if_neg (by omega),hhd];exact blk_eq e3 e4 e5);have HFL:=h_ (show s3++s4++s5=bs (flatP (v3++(v4++v5))) from by rw [hs3,hs4,hs5];exact ba_extA (by simp only [flatP_app,ba_app];simp))
 have nf3:¬ 9223372036854775807 < s3.size+s4.size:=by omega
 have nf4:¬ 9223372036854775807 < s3.size+s4.size+s5.size:=by omega
 clear hpn hp h hS hwo hwp kws kwn hgs q1 q2 t3 y3 x3 e1 hs1 hl1 e2 hs2 hl2 e3 hs3 hl3 e4 hs4 hl4 e5 hs5 hl5 hk ha hz hbl CB hol CO hmid hhd hr HXX;have k0:=H0.out.cell;have f0:=H0.out.frozen;have l0:=H0.out.lt;unfold aN aX at *
 go_enter Tryz.func26,Tryz.ntmps26
 go_upto_region 1 with fail;rw [<-E1.out,<-E3.out];clear E1 E3;go_upto_region 7 with fail
 refine wp_region_held_drew (S:=(fun w'=>∀ i,w'.cell? ⟨n3,i,none⟩=(#[.int .i64 x.kind,.string x.text,.int .i64 x.x.kind,.int .i64 x.x.val.kind,.bool x.x.val.bool,.int .i64 x.x.val.int,.string x.x.val.str,.slice la x.x.val.list.length lc,.slice ma x.x.val.map.length mc,.string x.x.name,.slice sa x.x.steps.length sc,.slice aa x.x.args.length ac,.string x.key,.string x.name,.slice ba x.body.length bc,.slice ea x.els.length ec]:Array Value)[i]?)) (by kernel_rfl) (by exact (Bar.blk ((Bar.refl W1 gs).trans (Bar.of ((Below.refl _ _).drew))) H0.out hn3).cell) (fun hHeld=>?_)
 refine mv_ 0 ?_
 refine mv_ 1 ?_
 refine mv_ 4 ?_
 refine mv_ 5 ?_
 refine mv_ 6 ?_
 refine mv_ 10 ?_
 refine mv_ 11 ?_
 refine mv_ 12 ?_
 refine mv_ 15 ?_
 refine mv_ 16 ?_
 refine mr_ 2 (fun K hK=>?_)
 go_simp
 refine (C1.out _ (HS.out.keep ((Below.refl _ _).drew)) ((Bar.refl W1 gs).trans (Bar.of ((Below.refl _ _).drew)))).mono ?_
 rintro e w1 ⟨rfl,ht1,hb1⟩;have HT1:=h_ ht1;have HR1:=h_ (((Bar.refl W1 gs).trans (Bar.of ((Below.refl _ _).drew))).trans hb1);clear ht1 hb1;go_wp2_with fail
 refine hK.out _ _ (by exact (Bar.blk HR1.out H0.out hn3).cell) (fun hHeld=>?_)
 clear hK K
 try simp only [Act.put,pA_,pB_,pC_]
 refine mv_ 3 ?_
 refine mr_ 7 (fun K hK=>?_)
 go_simp
 refine (C2.out _ HT1.out HR1.out).mono ?_
 rintro e w2 ⟨rfl,ht2,hb2⟩;have HT2:=h_ ht2;have HR2:=h_ (HR1.out.trans hb2);clear ht2 hb2;go_wp2_with fail
 refine hK.out _ _ (by exact (Bar.blk HR2.out H0.out hn3).cell) (fun hHeld=>?_)
 clear hK K
 try simp only [Act.put,pA_,pB_,pC_]
 refine mv_ 8 ?_
 refine mr_ 9 (fun K hK=>?_)
 go_simp
 refine (C3.out _ HT2.out HR2.out).mono ?_
 rintro e w3 ⟨rfl,ht3,hb3⟩;have HT3:=h_ ht3;have HR3:=h_ (HR2.out.trans hb3);clear ht3 hb3;go_wp2_with fail
 refine hK.out _ _ (by exact (Bar.blk HR3.out H0.out hn3).cell) (fun hHeld=>?_)
 clear hK K
 try simp only [Act.put,pA_,pB_,pC_]
 refine mr_ 13 (fun K hK=>?_)
 go_simp
 refine (C4.out _ HT3.out HR3.out).mono ?_
 rintro e w4 ⟨rfl,ht4,hb4⟩;have HT4:=h_ ht4;have HR4:=h_ (HR3.out.trans hb4);clear ht4 hb4;go_wp2_with fail
 refine hK.out _ _ (by exact (Bar.blk HR4.out H0.out hn3).cell) (fun hHeld=>?_)
 clear hK K
 try simp only [Act.put,pA_,pB_,pC_]
 refine mv_ 14 ?_
 refine mr_ 17 (fun K hK=>?_)
 go_simp
 refine (C5.out _ HT4.out HR4.out).mono ?_
 rintro e w5 ⟨rfl,ht5,hb5⟩;have HT5:=h_ ht5;have HR5:=h_ (HR4.out.trans hb5);clear ht5 hb5;go_wp2_with fail
 refine hK.out _ _ (by exact (Bar.blk HR5.out H0.out hn3).cell) (fun hHeld=>?_)
 clear hK K
 try simp only [Act.put,pA_,pB_,pC_]
 refine mv_ 18 ?_
 refine mv_ 19 ?_
 refine wpAnyH_done (by kernel_rfl) ?_ _
 go_wp2_with fail;go_ret;rw [HF.out]
 exact ⟨congrArg (fun s=>Ending.returned (Value.string s)) HFL.out,HT5.out,HB.out.trans HR5.out⟩
theorem nd_k3 {gs:Nat} {A:OA_} {c:Nat} {L:LB_} {n:Nat} {x:Nd} {a:Nat} {W:World} {S:Nat->Prop} {la:OA_} {lc:Nat} {ma:OA_} {mc:Nat} {sa:OA_} {sc:Nat} {aa:OA_} {ac:Nat} {ba:OA_} {bc:Nat} {ea:OA_} {ec:Nat} (hr:RightX 6 x.x) (hp:PartsN W S la lc ma mc sa sc aa ac ba bc ea ec x) (h:StAt W gs A c L a) (hS:∀ b,S b->b≠gs) (hk:x.kind=3) {sb:Nat} (hbl:LenB (wrW (ndW L n) x.body) (100*sb) (20*sb)) (CB:∀ (a':Nat) (w2:World),StAt w2 gs A c L a'->Bar W w2 gs->a'+20*sb<=1000000000->Calls Tryz.prog 11 #[.pointer (some ⟨gs,0,none⟩),.slice ba x.body.length bc] w2 (WrPost gs A c L (flatP (wrW (ndW L n) x.body a').1,(wrW (ndW L n) x.body a').2) w2)) {se:Nat} (hol:LenB (otW L n x) (50+100*se) (6+20*se)) (CO:∀ (a':Nat) (w2:World),StAt w2 gs A c L a'->Bar W w2 gs->a'+6+20*se<=1000000000->Calls Tryz.prog 47 #[.pointer (some ⟨gs,0,none⟩),.agg #[.int .i64 x.kind,.string x.text,.int .i64 x.x.kind,.int .i64 x.x.val.kind,.bool x.x.val.bool,.int .i64 x.x.val.int,.string x.x.val.str,.slice la x.x.val.list.length lc,.slice ma x.x.val.map.length mc,.string x.x.name,.slice sa x.x.steps.length sc,.slice aa x.x.args.length ac,.string x.key,.string x.name,.slice ba x.body.length bc,.slice ea x.els.length ec]] w2 (WrPost gs A c L (flatP (otW L n x a').1,(otW L n x a').2) w2)) (ha:a+20*(wtNo x+sb+se)<=1000000000) (hz:100*(wtNo x+sb+se)<=1000000):
  Calls Tryz.prog 26 #[.pointer (some ⟨gs,0,none⟩),.agg #[.int .i64 x.kind,.string x.text,.int .i64 x.x.kind,.int .i64 x.x.val.kind,.bool x.x.val.bool,.int .i64 x.x.val.int,.string x.x.val.str,.slice la x.x.val.list.length lc,.slice ma x.x.val.map.length mc,.string x.x.name,.slice sa x.x.steps.length sc,.slice aa x.x.args.length ac,.string x.key,.string x.name,.slice ba x.body.length bc,.slice ea x.els.length ec]] W (WrPost gs A c L (flatP (ndW L (n+1) x a).1,(ndW L (n+1) x a).2) W):=by
 have hwo:wtNo x=1+x.text.size+x.name.size+x.key.size+wtX 6 x.x:=rfl;have hwp:=wtX_pos (d:=6) x.x;have kws:=size_list x.key;have kwn:=size_list x.name;have hgs:=h.blk.lt;have hba:=Below.new W (.cells (aN x la lc ma mc sa sc aa ac ba bc ea ec) 70);have h0:=Blk.new W 70 (aN x la lc ma mc sa sc aa ac ba bc ea ec);have HS:=h_ (h.keep hba);have HB:=h_ (Bar.of (gc:=gs) hba);have H0:=h_ h0;have HXX:=h_ (hp.x.keep hba);have hpn:=hp.name;obtain ⟨W1,e1W⟩:∃ z,z=W.alloc (.cells (aN x la lc ma mc sa sc aa ac ba bc ea ec) 70):=⟨_,rfl⟩;obtain ⟨n3,e3W⟩:∃ z,z=W.heap.size:=⟨_,rfl⟩;rw [<-e1W] at HS HB H0 HXX;rw [<-e3W] at H0
 have hn3:n3≠gs:=by omega
 have E1:=h_ e1W;have E3:=h_ e3W;have HHS:=h_ hS;clear hba h0 e1W e3W;have gk0:(x.kind==0)=false:=bf_ (by omega);have gk1:(x.kind==1)=false:=bf_ (by omega);have gk2:(x.kind==2)=false:=bf_ (by omega)
 have gk3:(x.kind==3)=true:=by rw [hk];rfl
 have hl1:=gap_len L a;obtain ⟨⟨v1,a1⟩,e1⟩:∃ z,z=gapW L a:=⟨_,rfl⟩;rw [<-e1] at hl1
 simp only at hl1
 obtain ⟨s1,hs1⟩:∃ z,z=bs v1:=⟨_,rfl⟩
 have z1:s1.size<=2:=by rw [hs1,bs_size];exact hl1.1
 have q1:s1.size=v1.length:=by rw [hs1,bs_size]
 have C1:=h_ (fun (w2:World) (h2:StAt w2 gs A c L a) (h3:Bar W1 w2 gs)=>show Calls Tryz.prog 35 #[.pointer (some ⟨gs,0,none⟩)] w2 (fun e w'=>e=.returned (.string s1)/\StAt w' gs A c L a1/\Bar w2 w' gs) from by have h9:=tgap gs A c L a w2 h2 (by omega);rw [<-e1] at h9;rw [hs1];exact h9);have hl2:=pip_len L 7 6 x.x a1 hr (by omega);obtain ⟨⟨v2,a2⟩,e2⟩:∃ z,z=pipW L 7 x.x a1:=⟨_,rfl⟩;rw [<-e2] at hl2
 simp only at hl2
 obtain ⟨s2,hs2⟩:∃ z,z=bs v2:=⟨_,rfl⟩
 have z2:s2.size<=1000000:=by rw [hs2,bs_size];omega
 have q2:s2.size=v2.length:=by rw [hs2,bs_size]
 have C2:=h_ (fun (w2:World) (h2:StAt w2 gs A c L a1) (h3:Bar W1 w2 gs)=>show Calls Tryz.prog 18 #[.pointer (some ⟨gs,0,none⟩),.agg (aX x.x la lc ma mc sa sc aa ac)] w2 (fun e w'=>e=.returned (.string s2)/\StAt w' gs A c L a2/\Bar w2 w' gs) from by have h9:=wpipe_all (gs:=gs) (A:=A) (c:=c) (L:=L) 7 6 x.x a1 w2 S _ hr (by omega) h2 (HXX.out.bar h3 hS) hS (by omega) (by omega);unfold WrPost at h9;rw [<-e2] at h9;rw [hs2];exact h9);have hl3:=act_len L (([119,105,116,104]:LB_)++(v1++(v2))) a2;obtain ⟨⟨v3,a3⟩,e3⟩:∃ z,z=actW L (([119,105,116,104]:LB_)++(v1++(v2))) a2:=⟨_,rfl⟩;rw [<-e3] at hl3
 simp only at hl3
 obtain ⟨s3,hs3⟩:∃ z,z=bs (flatP v3):=⟨_,rfl⟩
 have t3:(⟨#[119,105,116,104]⟩++s1++s2:ByteArray).data.toList=([119,105,116,104]:LB_)++(v1++(v2)):=by rw [hs1,hs2];simp only [ba_app];simp
 have y3:(⟨#[119,105,116,104]⟩++s1++s2:ByteArray).size=4+s1.size+s2.size:=by simp only [ByteArray.size_append];rfl
 have x3:(([119,105,116,104]:LB_)++(v1++(v2))).length=4+s1.size+s2.size:=by rw [<-t3,<-size_list];exact y3
 have z3:s3.size<=1000000:=by rw [hs3,bs_size];omega
 have nf1:¬ 9223372036854775807 < 4+s1.size:=by omega
 have nf2:¬ 9223372036854775807 < 4+s1.size+s2.size:=by omega
 have C3:=h_ (fun (w2:World) (h2:StAt w2 gs A c L a2) (h3:Bar W1 w2 gs)=>show Calls Tryz.prog 46 #[.pointer (some ⟨gs,0,none⟩),.string (⟨#[119,105,116,104]⟩++s1++s2)] w2 (fun e w'=>e=.returned (.string s3)/\StAt w' gs A c L a3/\Bar w2 w' gs) from by have h9:=taction gs A c L a2 (⟨#[119,105,116,104]⟩++s1++s2) w2 h2 (by omega) (by omega);unfold WrPost at h9;rw [t3,<-e3] at h9;rw [hs3];exact h9);have hl4:=hbl a3;obtain ⟨⟨v4,a4⟩,e4⟩:∃ z,z=wrW (ndW L n) x.body a3:=⟨_,rfl⟩;rw [<-e4] at hl4
 simp only at hl4
 obtain ⟨s4,hs4⟩:∃ z,z=bs (flatP v4):=⟨_,rfl⟩
 have z4:s4.size<=1000000:=by rw [hs4,bs_size];omega
 have C4:=h_ (fun (w2:World) (h2:StAt w2 gs A c L a3) (h3:Bar W1 w2 gs)=>show Calls Tryz.prog 11 #[.pointer (some ⟨gs,0,none⟩),.slice ba x.body.length bc] w2 (fun e w'=>e=.returned (.string s4)/\StAt w' gs A c L a4/\Bar w2 w' gs) from by have h9:=CB a3 w2 h2 (HB.out.trans h3) (by omega);unfold WrPost at h9;rw [<-e4] at h9;rw [hs4];exact h9);have hl5:=hol a4;obtain ⟨⟨v5,a5⟩,e5⟩:∃ z,z=otW L n x a4:=⟨_,rfl⟩;rw [<-e5] at hl5
 simp only at hl5
 obtain ⟨s5,hs5⟩:∃ z,z=bs (flatP v5):=⟨_,rfl⟩
 have z5:s5.size<=1000000:=by rw [hs5,bs_size];omega
 have C5:=h_ (fun (w2:World) (h2:StAt w2 gs A c L a4) (h3:Bar W1 w2 gs)=>show Calls Tryz.prog 47 #[.pointer (some ⟨gs,0,none⟩),.agg (aN x la lc ma mc sa sc aa ac ba bc ea ec)] w2 (fun e w'=>e=.returned (.string s5)/\StAt w' gs A c L a5/\Bar w2 w' gs) from by have h9:=CO a4 w2 h2 (HB.out.trans h3) (by omega);unfold WrPost at h9;rw [<-e5] at h9;rw [hs5];exact h9)
 have hmid:midW L x a=gapW L a:=by unfold midW;rw [if_neg (by omega)]
 have hhd:headW L x a=(([119,105,116,104]:LB_)++(v1++(v2)),a2):=by unfold headW;rw [hmid,<-e1];simp only;rw [<-e2,hk];rfl
 have HF:=h_ (show ndW L (n+1) x a=(v3++(v4++v5),a5) from by rw [ndW,if_neg (by omega),if_neg (by omega),if_neg (by omega),if_neg (by omega),hhd];exact blk_eq e3 e4 e5);have HFL:=h_ (show s3++s4++s5=bs (flatP (v3++(v4++v5))) from by rw [hs3,hs4,hs5];exact ba_extA (by simp only [flatP_app,ba_app];simp))
 have nf3:¬ 9223372036854775807 < s3.size+s4.size:=by omega
 have nf4:¬ 9223372036854775807 < s3.size+s4.size+s5.size:=by omega
 clear hpn hp h hS hwo hwp kws kwn hgs q1 q2 t3 y3 x3 e1 hs1 hl1 e2 hs2 hl2 e3 hs3 hl3 e4 hs4 hl4 e5 hs5 hl5 hk ha hz hbl CB hol CO hmid hhd hr HXX;have k0:=H0.out.cell;have f0:=H0.out.frozen;have l0:=H0.out.lt;unfold aN aX at *
 go_enter Tryz.func26,Tryz.ntmps26
 go_upto_region 1 with fail;rw [<-E1.out,<-E3.out];clear E1 E3;go_upto_region 9 with fail
 refine wp_region_held_drew (S:=(fun w'=>∀ i,w'.cell? ⟨n3,i,none⟩=(#[.int .i64 x.kind,.string x.text,.int .i64 x.x.kind,.int .i64 x.x.val.kind,.bool x.x.val.bool,.int .i64 x.x.val.int,.string x.x.val.str,.slice la x.x.val.list.length lc,.slice ma x.x.val.map.length mc,.string x.x.name,.slice sa x.x.steps.length sc,.slice aa x.x.args.length ac,.string x.key,.string x.name,.slice ba x.body.length bc,.slice ea x.els.length ec]:Array Value)[i]?)) (by kernel_rfl) (by exact (Bar.blk ((Bar.refl W1 gs).trans (Bar.of ((Below.refl _ _).drew))) H0.out hn3).cell) (fun hHeld=>?_)
 refine mv_ 0 ?_
 refine mv_ 1 ?_
 refine mv_ 4 ?_
 refine mv_ 5 ?_
 refine mv_ 6 ?_
 refine mv_ 10 ?_
 refine mv_ 11 ?_
 refine mv_ 12 ?_
 refine mv_ 15 ?_
 refine mv_ 16 ?_
 refine mr_ 2 (fun K hK=>?_)
 go_simp
 refine (C1.out _ (HS.out.keep ((Below.refl _ _).drew)) ((Bar.refl W1 gs).trans (Bar.of ((Below.refl _ _).drew)))).mono ?_
 rintro e w1 ⟨rfl,ht1,hb1⟩;have HT1:=h_ ht1;have HR1:=h_ (((Bar.refl W1 gs).trans (Bar.of ((Below.refl _ _).drew))).trans hb1);clear ht1 hb1;go_wp2_with fail
 refine hK.out _ _ (by exact (Bar.blk HR1.out H0.out hn3).cell) (fun hHeld=>?_)
 clear hK K
 try simp only [Act.put,pA_,pB_,pC_]
 refine mv_ 3 ?_
 refine mr_ 7 (fun K hK=>?_)
 go_simp
 refine (C2.out _ HT1.out HR1.out).mono ?_
 rintro e w2 ⟨rfl,ht2,hb2⟩;have HT2:=h_ ht2;have HR2:=h_ (HR1.out.trans hb2);clear ht2 hb2;go_wp2_with fail
 refine hK.out _ _ (by exact (Bar.blk HR2.out H0.out hn3).cell) (fun hHeld=>?_)
 clear hK K
 try simp only [Act.put,pA_,pB_,pC_]
 refine mv_ 8 ?_
 refine mr_ 9 (fun K hK=>?_)
 go_simp
 refine (C3.out _ HT2.out HR2.out).mono ?_
 rintro e w3 ⟨rfl,ht3,hb3⟩;have HT3:=h_ ht3;have HR3:=h_ (HR2.out.trans hb3);clear ht3 hb3;go_wp2_with fail
 refine hK.out _ _ (by exact (Bar.blk HR3.out H0.out hn3).cell) (fun hHeld=>?_)
 clear hK K
 try simp only [Act.put,pA_,pB_,pC_]
 refine mr_ 13 (fun K hK=>?_)
 go_simp
 refine (C4.out _ HT3.out HR3.out).mono ?_
 rintro e w4 ⟨rfl,ht4,hb4⟩;have HT4:=h_ ht4;have HR4:=h_ (HR3.out.trans hb4);clear ht4 hb4;go_wp2_with fail
 refine hK.out _ _ (by exact (Bar.blk HR4.out H0.out hn3).cell) (fun hHeld=>?_)
 clear hK K
 try simp only [Act.put,pA_,pB_,pC_]
 refine mv_ 14 ?_
 refine mr_ 17 (fun K hK=>?_)
 go_simp
 refine (C5.out _ HT4.out HR4.out).mono ?_
 rintro e w5 ⟨rfl,ht5,hb5⟩;have HT5:=h_ ht5;have HR5:=h_ (HR4.out.trans hb5);clear ht5 hb5;go_wp2_with fail
 refine hK.out _ _ (by exact (Bar.blk HR5.out H0.out hn3).cell) (fun hHeld=>?_)
 clear hK K
 try simp only [Act.put,pA_,pB_,pC_]
 refine mv_ 18 ?_
 refine mv_ 19 ?_
 refine wpAnyH_done (by kernel_rfl) ?_ _
 go_wp2_with fail;go_ret;rw [HF.out]
 exact ⟨congrArg (fun s=>Ending.returned (Value.string s)) HFL.out,HT5.out,HB.out.trans HR5.out⟩
theorem nd_k5 {gs:Nat} {A:OA_} {c:Nat} {L:LB_} {n:Nat} {x:Nd} {a:Nat} {W:World} {S:Nat->Prop} {la:OA_} {lc:Nat} {ma:OA_} {mc:Nat} {sa:OA_} {sc:Nat} {aa:OA_} {ac:Nat} {ba:OA_} {bc:Nat} {ea:OA_} {ec:Nat} (hr:RightX 6 x.x) (hp:PartsN W S la lc ma mc sa sc aa ac ba bc ea ec x) (h:StAt W gs A c L a) (hS:∀ b,S b->b≠gs) (hk:x.kind=5) (ha:a+20*(wtNo x)<=1000000000) (hz:100*(wtNo x)<=1000000):
  Calls Tryz.prog 26 #[.pointer (some ⟨gs,0,none⟩),.agg #[.int .i64 x.kind,.string x.text,.int .i64 x.x.kind,.int .i64 x.x.val.kind,.bool x.x.val.bool,.int .i64 x.x.val.int,.string x.x.val.str,.slice la x.x.val.list.length lc,.slice ma x.x.val.map.length mc,.string x.x.name,.slice sa x.x.steps.length sc,.slice aa x.x.args.length ac,.string x.key,.string x.name,.slice ba x.body.length bc,.slice ea x.els.length ec]] W (WrPost gs A c L (flatP (ndW L (n+1) x a).1,(ndW L (n+1) x a).2) W):=by
 have hwo:wtNo x=1+x.text.size+x.name.size+x.key.size+wtX 6 x.x:=rfl;have hwp:=wtX_pos (d:=6) x.x;have kws:=size_list x.key;have kwn:=size_list x.name;have hgs:=h.blk.lt;have hba:=Below.new W (.cells (aN x la lc ma mc sa sc aa ac ba bc ea ec) 70);have h0:=Blk.new W 70 (aN x la lc ma mc sa sc aa ac ba bc ea ec);have HS:=h_ (h.keep hba);have HB:=h_ (Bar.of (gc:=gs) hba);have H0:=h_ h0;have HXX:=h_ (hp.x.keep hba);have hpn:=hp.name;obtain ⟨W1,e1W⟩:∃ z,z=W.alloc (.cells (aN x la lc ma mc sa sc aa ac ba bc ea ec) 70):=⟨_,rfl⟩;obtain ⟨n3,e3W⟩:∃ z,z=W.heap.size:=⟨_,rfl⟩;rw [<-e1W] at HS HB H0 HXX;rw [<-e3W] at H0
 have hn3:n3≠gs:=by omega
 have E1:=h_ e1W;have E3:=h_ e3W;have HHS:=h_ hS;clear hba h0 e1W e3W;have gk0:(x.kind==0)=false:=bf_ (by omega);have gk1:(x.kind==1)=false:=bf_ (by omega);have gk2:(x.kind==2)=false:=bf_ (by omega);have gk3:(x.kind==3)=false:=bf_ (by omega);have gk4:(x.kind==4)=false:=bf_ (by omega)
 have gk5:(x.kind==5)=true:=by rw [hk];rfl
 have hl1:=gap_len L a;obtain ⟨⟨v1,a1⟩,e1⟩:∃ z,z=gapW L a:=⟨_,rfl⟩;rw [<-e1] at hl1
 simp only at hl1
 obtain ⟨s1,hs1⟩:∃ z,z=bs v1:=⟨_,rfl⟩
 have z1:s1.size<=2:=by rw [hs1,bs_size];exact hl1.1
 have q1:s1.size=v1.length:=by rw [hs1,bs_size]
 have C1:=h_ (fun (w2:World) (h2:StAt w2 gs A c L a) (h3:Bar W1 w2 gs)=>show Calls Tryz.prog 35 #[.pointer (some ⟨gs,0,none⟩)] w2 (fun e w'=>e=.returned (.string s1)/\StAt w' gs A c L a1/\Bar w2 w' gs) from by have h9:=tgap gs A c L a w2 h2 (by omega);rw [<-e1] at h9;rw [hs1];exact h9);have hl2:=gap_len L a1;obtain ⟨⟨v2,a2⟩,e2⟩:∃ z,z=gapW L a1:=⟨_,rfl⟩;rw [<-e2] at hl2
 simp only at hl2
 obtain ⟨s2,hs2⟩:∃ z,z=bs v2:=⟨_,rfl⟩
 have z2:s2.size<=2:=by rw [hs2,bs_size];exact hl2.1
 have q2:s2.size=v2.length:=by rw [hs2,bs_size]
 have C2:=h_ (fun (w2:World) (h2:StAt w2 gs A c L a1) (h3:Bar W1 w2 gs)=>show Calls Tryz.prog 35 #[.pointer (some ⟨gs,0,none⟩)] w2 (fun e w'=>e=.returned (.string s2)/\StAt w' gs A c L a2/\Bar w2 w' gs) from by have h9:=tgap gs A c L a1 w2 h2 (by omega);rw [<-e2] at h9;rw [hs2];exact h9);have hl3:=pip_len L 7 6 x.x a2 hr (by omega);obtain ⟨⟨v3,a3⟩,e3⟩:∃ z,z=pipW L 7 x.x a2:=⟨_,rfl⟩;rw [<-e3] at hl3
 simp only at hl3
 obtain ⟨s3,hs3⟩:∃ z,z=bs v3:=⟨_,rfl⟩
 have z3:s3.size<=1000000:=by rw [hs3,bs_size];omega
 have q3:s3.size=v3.length:=by rw [hs3,bs_size]
 have C3:=h_ (fun (w2:World) (h2:StAt w2 gs A c L a2) (h3:Bar W1 w2 gs)=>show Calls Tryz.prog 18 #[.pointer (some ⟨gs,0,none⟩),.agg (aX x.x la lc ma mc sa sc aa ac)] w2 (fun e w'=>e=.returned (.string s3)/\StAt w' gs A c L a3/\Bar w2 w' gs) from by have h9:=wpipe_all (gs:=gs) (A:=A) (c:=c) (L:=L) 7 6 x.x a2 w2 S _ hr (by omega) h2 (HXX.out.bar h3 hS) hS (by omega) (by omega);unfold WrPost at h9;rw [<-e3] at h9;rw [hs3];exact h9);have hl4:=act_len L (([36]:LB_)++(x.name.data.toList++(v1++(([58,61]:LB_)++(v2++(v3)))))) a3;obtain ⟨⟨v4,a4⟩,e4⟩:∃ z,z=actW L (([36]:LB_)++(x.name.data.toList++(v1++(([58,61]:LB_)++(v2++(v3)))))) a3:=⟨_,rfl⟩;rw [<-e4] at hl4
 simp only at hl4
 obtain ⟨s4,hs4⟩:∃ z,z=bs (flatP v4):=⟨_,rfl⟩
 have t4:(⟨#[36]⟩++x.name++s1++⟨#[58,61]⟩++s2++s3:ByteArray).data.toList=([36]:LB_)++(x.name.data.toList++(v1++(([58,61]:LB_)++(v2++(v3))))):=by rw [hs1,hs2,hs3];simp only [ba_app];simp
 have y4:(⟨#[36]⟩++x.name++s1++⟨#[58,61]⟩++s2++s3:ByteArray).size=1+x.name.size+s1.size+2+s2.size+s3.size:=by simp only [ByteArray.size_append];rfl
 have x4:(([36]:LB_)++(x.name.data.toList++(v1++(([58,61]:LB_)++(v2++(v3)))))).length=1+x.name.size+s1.size+2+s2.size+s3.size:=by rw [<-t4,<-size_list];exact y4
 have z4:s4.size<=1000000:=by rw [hs4,bs_size];omega
 have nf1:¬ 9223372036854775807 < 1+x.name.size:=by omega
 have nf2:¬ 9223372036854775807 < 1+x.name.size+s1.size:=by omega
 have nf3:¬ 9223372036854775807 < 1+x.name.size+s1.size+2:=by omega
 have nf4:¬ 9223372036854775807 < 1+x.name.size+s1.size+2+s2.size:=by omega
 have nf5:¬ 9223372036854775807 < 1+x.name.size+s1.size+2+s2.size+s3.size:=by omega
 have C4:=h_ (fun (w2:World) (h2:StAt w2 gs A c L a3) (h3:Bar W1 w2 gs)=>show Calls Tryz.prog 46 #[.pointer (some ⟨gs,0,none⟩),.string (⟨#[36]⟩++x.name++s1++⟨#[58,61]⟩++s2++s3)] w2 (fun e w'=>e=.returned (.string s4)/\StAt w' gs A c L a4/\Bar w2 w' gs) from by have h9:=taction gs A c L a3 (⟨#[36]⟩++x.name++s1++⟨#[58,61]⟩++s2++s3) w2 h2 (by omega) (by omega);unfold WrPost at h9;rw [t4,<-e4] at h9;rw [hs4];exact h9)
 have hst:setW L x a=(([36]:LB_)++(x.name.data.toList++(v1++(([58,61]:LB_)++(v2++(v3))))),a3):=by unfold setW letW;rw [<-e1];simp only;rw [<-e2];simp only;rw [<-e3];simp
 have HF:=h_ (show ndW L (n+1) x a=(v4,a4) from by rw [ndW,if_neg (by omega),if_neg (by omega),if_pos hk,hst];exact e4.symm);have HFL:=h_ (show s4=bs (flatP (v4)) from by exact hs4);clear hpn hp h hS hwo hwp kws kwn hgs q1 q2 q3 t4 y4 x4 e1 hs1 hl1 e2 hs2 hl2 e3 hs3 hl3 e4 hs4 hl4 hk ha hz hst hr HXX;have k0:=H0.out.cell;have f0:=H0.out.frozen;have l0:=H0.out.lt;unfold aN aX at *
 go_enter Tryz.func26,Tryz.ntmps26
 go_upto_region 1 with fail;rw [<-E1.out,<-E3.out];clear E1 E3;go_upto_region 18 with fail
 refine wp_region_held_drew (S:=(fun w'=>∀ i,w'.cell? ⟨n3,i,none⟩=(#[.int .i64 x.kind,.string x.text,.int .i64 x.x.kind,.int .i64 x.x.val.kind,.bool x.x.val.bool,.int .i64 x.x.val.int,.string x.x.val.str,.slice la x.x.val.list.length lc,.slice ma x.x.val.map.length mc,.string x.x.name,.slice sa x.x.steps.length sc,.slice aa x.x.args.length ac,.string x.key,.string x.name,.slice ba x.body.length bc,.slice ea x.els.length ec]:Array Value)[i]?)) (by kernel_rfl) (by exact (Bar.blk ((Bar.refl W1 gs).trans (Bar.of ((Below.refl _ _).drew))) H0.out hn3).cell) (fun hHeld=>?_)
 refine mv_ 0 ?_
 refine mv_ 1 ?_
 refine mv_ 2 ?_
 refine mv_ 3 ?_
 refine mv_ 4 ?_
 refine mv_ 8 ?_
 refine mv_ 11 ?_
 refine mv_ 12 ?_
 refine mv_ 13 ?_
 refine mr_ 5 (fun K hK=>?_)
 go_simp
 refine (C1.out _ (HS.out.keep ((Below.refl _ _).drew)) ((Bar.refl W1 gs).trans (Bar.of ((Below.refl _ _).drew)))).mono ?_
 rintro e w1 ⟨rfl,ht1,hb1⟩;have HT1:=h_ ht1;have HR1:=h_ (((Bar.refl W1 gs).trans (Bar.of ((Below.refl _ _).drew))).trans hb1);clear ht1 hb1;go_wp2_with fail
 refine hK.out _ _ (by exact (Bar.blk HR1.out H0.out hn3).cell) (fun hHeld=>?_)
 clear hK K
 try simp only [Act.put,pA_,pB_,pC_]
 refine mv_ 6 ?_
 refine mv_ 7 ?_
 refine mr_ 9 (fun K hK=>?_)
 go_simp
 refine (C2.out _ HT1.out HR1.out).mono ?_
 rintro e w2 ⟨rfl,ht2,hb2⟩;have HT2:=h_ ht2;have HR2:=h_ (HR1.out.trans hb2);clear ht2 hb2;go_wp2_with fail
 refine hK.out _ _ (by exact (Bar.blk HR2.out H0.out hn3).cell) (fun hHeld=>?_)
 clear hK K
 try simp only [Act.put,pA_,pB_,pC_]
 refine mv_ 10 ?_
 refine mr_ 14 (fun K hK=>?_)
 go_simp
 refine (C3.out _ HT2.out HR2.out).mono ?_
 rintro e w3 ⟨rfl,ht3,hb3⟩;have HT3:=h_ ht3;have HR3:=h_ (HR2.out.trans hb3);clear ht3 hb3;go_wp2_with fail
 refine hK.out _ _ (by exact (Bar.blk HR3.out H0.out hn3).cell) (fun hHeld=>?_)
 clear hK K
 try simp only [Act.put,pA_,pB_,pC_]
 refine mv_ 15 ?_
 refine mr_ 16 (fun K hK=>?_)
 go_simp
 refine (C4.out _ HT3.out HR3.out).mono ?_
 rintro e w4 ⟨rfl,ht4,hb4⟩;have HT4:=h_ ht4;have HR4:=h_ (HR3.out.trans hb4);clear ht4 hb4;go_wp2_with fail
 refine hK.out _ _ (by exact (Bar.blk HR4.out H0.out hn3).cell) (fun hHeld=>?_)
 clear hK K
 try simp only [Act.put,pA_,pB_,pC_]
 refine mv_ 17 ?_
 refine wpAnyH_done (by kernel_rfl) ?_ _
 go_wp2_with fail;go_ret;rw [HF.out]
 exact ⟨congrArg (fun s=>Ending.returned (Value.string s)) HFL.out,HT4.out,HB.out.trans HR4.out⟩
theorem nd_k6 {gs:Nat} {A:OA_} {c:Nat} {L:LB_} {n:Nat} {x:Nd} {a:Nat} {W:World} {S:Nat->Prop} {la:OA_} {lc:Nat} {ma:OA_} {mc:Nat} {sa:OA_} {sc:Nat} {aa:OA_} {ac:Nat} {ba:OA_} {bc:Nat} {ea:OA_} {ec:Nat} (hp:PartsN W S la lc ma mc sa sc aa ac ba bc ea ec x) (h:StAt W gs A c L a) (hS:∀ b,S b->b≠gs) (hk:x.kind=6) {sb:Nat} (hbl:LenB (wrW (ndW L n) x.body) (100*sb) (20*sb)) (CB:∀ (a':Nat) (w2:World),StAt w2 gs A c L a'->Bar W w2 gs->a'+20*sb<=1000000000->Calls Tryz.prog 11 #[.pointer (some ⟨gs,0,none⟩),.slice ba x.body.length bc] w2 (WrPost gs A c L (flatP (wrW (ndW L n) x.body a').1,(wrW (ndW L n) x.body a').2) w2)) (ha:a+20*(wtNo x+sb)<=1000000000) (hz:100*(wtNo x+sb)<=1000000):
  Calls Tryz.prog 26 #[.pointer (some ⟨gs,0,none⟩),.agg #[.int .i64 x.kind,.string x.text,.int .i64 x.x.kind,.int .i64 x.x.val.kind,.bool x.x.val.bool,.int .i64 x.x.val.int,.string x.x.val.str,.slice la x.x.val.list.length lc,.slice ma x.x.val.map.length mc,.string x.x.name,.slice sa x.x.steps.length sc,.slice aa x.x.args.length ac,.string x.key,.string x.name,.slice ba x.body.length bc,.slice ea x.els.length ec]] W (WrPost gs A c L (flatP (ndW L (n+1) x a).1,(ndW L (n+1) x a).2) W):=by
 have hwo:wtNo x=1+x.text.size+x.name.size+x.key.size+wtX 6 x.x:=rfl;have hwp:=wtX_pos (d:=6) x.x;have kws:=size_list x.key;have kwn:=size_list x.name;have hgs:=h.blk.lt;have hba:=Below.new W (.cells (aN x la lc ma mc sa sc aa ac ba bc ea ec) 70);have h0:=Blk.new W 70 (aN x la lc ma mc sa sc aa ac ba bc ea ec);have HS:=h_ (h.keep hba);have HB:=h_ (Bar.of (gc:=gs) hba);have H0:=h_ h0;have HXX:=h_ (hp.x.keep hba);have hpn:=hp.name;obtain ⟨W1,e1W⟩:∃ z,z=W.alloc (.cells (aN x la lc ma mc sa sc aa ac ba bc ea ec) 70):=⟨_,rfl⟩;obtain ⟨n3,e3W⟩:∃ z,z=W.heap.size:=⟨_,rfl⟩;rw [<-e1W] at HS HB H0 HXX;rw [<-e3W] at H0
 have hn3:n3≠gs:=by omega
 have E1:=h_ e1W;have E3:=h_ e3W;have HHS:=h_ hS;clear hba h0 e1W e3W;have gk0:(x.kind==0)=false:=bf_ (by omega);have gk1:(x.kind==1)=false:=bf_ (by omega);have gk2:(x.kind==2)=false:=bf_ (by omega);have gk3:(x.kind==3)=false:=bf_ (by omega);have gk4:(x.kind==4)=false:=bf_ (by omega);have gk5:(x.kind==5)=false:=bf_ (by omega);have hl1:=gap_len L a;obtain ⟨⟨v1,a1⟩,e1⟩:∃ z,z=gapW L a:=⟨_,rfl⟩;rw [<-e1] at hl1
 simp only at hl1
 obtain ⟨s1,hs1⟩:∃ z,z=bs v1:=⟨_,rfl⟩
 have z1:s1.size<=2:=by rw [hs1,bs_size];exact hl1.1
 have q1:s1.size=v1.length:=by rw [hs1,bs_size]
 have C1:=h_ (fun (w2:World) (h2:StAt w2 gs A c L a) (h3:Bar W1 w2 gs)=>show Calls Tryz.prog 35 #[.pointer (some ⟨gs,0,none⟩)] w2 (fun e w'=>e=.returned (.string s1)/\StAt w' gs A c L a1/\Bar w2 w' gs) from by have h9:=tgap gs A c L a w2 h2 (by omega);rw [<-e1] at h9;rw [hs1];exact h9)
 have hl2:(quoteL x.name.data.toList).length<=2+2*x.name.size:=by have h9:=escL_len x.name.data.toList;have h8:=size_list x.name;unfold quoteL;simp only [List.length_append,List.length_cons,List.length_nil];omega
 obtain ⟨v2,e2⟩:∃ z,z=quoteL x.name.data.toList:=⟨_,rfl⟩;rw [<-e2] at hl2;obtain ⟨s2,hs2⟩:∃ z,z=bs v2:=⟨_,rfl⟩
 have z2:s2.size<=1000000:=by rw [hs2,bs_size];omega
 have q2:s2.size=v2.length:=by rw [hs2,bs_size]
 have C2:=h_ (fun (w2:World) (h2:StAt w2 gs A c L a1) (h3:Bar W1 w2 gs)=>show Calls Tryz.prog 48 #[.string x.name] w2 (fun e w'=>e=.returned (.string s2)/\StAt w' gs A c L a1/\Bar w2 w' gs) from by have h9:=rquote x.name (by omega) w2;refine h9.mono ?_;rintro e w' ⟨v,rfl,hv,rfl⟩;exact ⟨by rw [show v=s2 from ba_extA (by rw [hv,hs2,<-e2])],h2,Bar.refl _ _⟩);have hl3:=act_len L (([100,101,102,105,110,101]:LB_)++(v1++(v2))) a1;obtain ⟨⟨v3,a3⟩,e3⟩:∃ z,z=actW L (([100,101,102,105,110,101]:LB_)++(v1++(v2))) a1:=⟨_,rfl⟩;rw [<-e3] at hl3
 simp only at hl3
 obtain ⟨s3,hs3⟩:∃ z,z=bs (flatP v3):=⟨_,rfl⟩
 have t3:(⟨#[100,101,102,105,110,101]⟩++s1++s2:ByteArray).data.toList=([100,101,102,105,110,101]:LB_)++(v1++(v2)):=by rw [hs1,hs2];simp only [ba_app];simp
 have y3:(⟨#[100,101,102,105,110,101]⟩++s1++s2:ByteArray).size=6+s1.size+s2.size:=by simp only [ByteArray.size_append];rfl
 have x3:(([100,101,102,105,110,101]:LB_)++(v1++(v2))).length=6+s1.size+s2.size:=by rw [<-t3,<-size_list];exact y3
 have z3:s3.size<=1000000:=by rw [hs3,bs_size];omega
 have nf1:¬ 9223372036854775807 < 6+s1.size:=by omega
 have nf2:¬ 9223372036854775807 < 6+s1.size+s2.size:=by omega
 have C3:=h_ (fun (w2:World) (h2:StAt w2 gs A c L a1) (h3:Bar W1 w2 gs)=>show Calls Tryz.prog 46 #[.pointer (some ⟨gs,0,none⟩),.string (⟨#[100,101,102,105,110,101]⟩++s1++s2)] w2 (fun e w'=>e=.returned (.string s3)/\StAt w' gs A c L a3/\Bar w2 w' gs) from by have h9:=taction gs A c L a1 (⟨#[100,101,102,105,110,101]⟩++s1++s2) w2 h2 (by omega) (by omega);unfold WrPost at h9;rw [t3,<-e3] at h9;rw [hs3];exact h9);have hl4:=hbl a3;obtain ⟨⟨v4,a4⟩,e4⟩:∃ z,z=wrW (ndW L n) x.body a3:=⟨_,rfl⟩;rw [<-e4] at hl4
 simp only at hl4
 obtain ⟨s4,hs4⟩:∃ z,z=bs (flatP v4):=⟨_,rfl⟩
 have z4:s4.size<=1000000:=by rw [hs4,bs_size];omega
 have C4:=h_ (fun (w2:World) (h2:StAt w2 gs A c L a3) (h3:Bar W1 w2 gs)=>show Calls Tryz.prog 11 #[.pointer (some ⟨gs,0,none⟩),.slice ba x.body.length bc] w2 (fun e w'=>e=.returned (.string s4)/\StAt w' gs A c L a4/\Bar w2 w' gs) from by have h9:=CB a3 w2 h2 (HB.out.trans h3) (by omega);unfold WrPost at h9;rw [<-e4] at h9;rw [hs4];exact h9);have hl5:=act_len L (([101,110,100]:LB_)) a4;obtain ⟨⟨v5,a5⟩,e5⟩:∃ z,z=actW L (([101,110,100]:LB_)) a4:=⟨_,rfl⟩;rw [<-e5] at hl5
 simp only at hl5
 obtain ⟨s5,hs5⟩:∃ z,z=bs (flatP v5):=⟨_,rfl⟩
 have t5:(⟨#[101,110,100]⟩:ByteArray).data.toList=([101,110,100]:LB_):=by rfl
 have y5:(⟨#[101,110,100]⟩:ByteArray).size=3:=by rfl
 have x5:(([101,110,100]:LB_)).length=3:=by rw [<-t5,<-size_list];exact y5
 have z5:s5.size<=1000000:=by rw [hs5,bs_size];omega
 have C5:=h_ (fun (w2:World) (h2:StAt w2 gs A c L a4) (h3:Bar W1 w2 gs)=>show Calls Tryz.prog 46 #[.pointer (some ⟨gs,0,none⟩),.string (⟨#[101,110,100]⟩)] w2 (fun e w'=>e=.returned (.string s5)/\StAt w' gs A c L a5/\Bar w2 w' gs) from by have h9:=taction gs A c L a4 (⟨#[101,110,100]⟩) w2 h2 (by omega) (by omega);unfold WrPost at h9;rw [t5,<-e5] at h9;rw [hs5];exact h9)
 have hdf:defW L x a=(([100,101,102,105,110,101]:LB_)++(v1++(v2)),a1):=by unfold defW;rw [<-e1,<-e2];rfl
 have HF:=h_ (show ndW L (n+1) x a=(v3++(v4++v5),a5) from by rw [ndW,if_neg (by omega),if_neg (by omega),if_neg (by omega),if_pos hk,hdf];exact blk_eq e3 e4 e5);have HFL:=h_ (show s3++s4++s5=bs (flatP (v3++(v4++v5))) from by rw [hs3,hs4,hs5];exact ba_extA (by simp only [flatP_app,ba_app];simp))
 have nf3:¬ 9223372036854775807 < s3.size+s4.size:=by omega
 have nf4:¬ 9223372036854775807 < s3.size+s4.size+s5.size:=by omega
 clear hpn hp h hS hwo hwp kws kwn hgs q1 q2 t3 y3 x3 t5 y5 x5 e1 hs1 hl1 e2 hs2 hl2 e3 hs3 hl3 e4 hs4 hl4 e5 hs5 hl5 hk ha hz hbl CB hdf;have k0:=H0.out.cell;have f0:=H0.out.frozen;have l0:=H0.out.lt;unfold aN at *
 go_enter Tryz.func26,Tryz.ntmps26
 go_upto_region 1 with fail;rw [<-E1.out,<-E3.out];clear E1 E3;go_upto_region 19 with fail
 refine wp_region_held_drew (S:=(fun w'=>∀ i,w'.cell? ⟨n3,i,none⟩=(#[.int .i64 x.kind,.string x.text,.int .i64 x.x.kind,.int .i64 x.x.val.kind,.bool x.x.val.bool,.int .i64 x.x.val.int,.string x.x.val.str,.slice la x.x.val.list.length lc,.slice ma x.x.val.map.length mc,.string x.x.name,.slice sa x.x.steps.length sc,.slice aa x.x.args.length ac,.string x.key,.string x.name,.slice ba x.body.length bc,.slice ea x.els.length ec]:Array Value)[i]?)) (by kernel_rfl) (by exact (Bar.blk ((Bar.refl W1 gs).trans (Bar.of ((Below.refl _ _).drew))) H0.out hn3).cell) (fun hHeld=>?_)
 refine mv_ 0 ?_
 refine mv_ 1 ?_
 refine mv_ 4 ?_
 refine mv_ 5 ?_
 refine mv_ 9 ?_
 refine mv_ 10 ?_
 refine mv_ 11 ?_
 refine mv_ 14 ?_
 refine mr_ 2 (fun K hK=>?_)
 go_simp
 refine (C1.out _ (HS.out.keep ((Below.refl _ _).drew)) ((Bar.refl W1 gs).trans (Bar.of ((Below.refl _ _).drew)))).mono ?_
 rintro e w1 ⟨rfl,ht1,hb1⟩;have HT1:=h_ ht1;have HR1:=h_ (((Bar.refl W1 gs).trans (Bar.of ((Below.refl _ _).drew))).trans hb1);clear ht1 hb1;go_wp2_with fail
 refine hK.out _ _ (by exact (Bar.blk HR1.out H0.out hn3).cell) (fun hHeld=>?_)
 clear hK K
 try simp only [Act.put,pA_,pB_,pC_]
 refine mv_ 3 ?_
 refine mr_ 6 (fun K hK=>?_)
 go_simp
 refine (C2.out _ HT1.out HR1.out).mono ?_
 rintro e w2 ⟨rfl,ht2,hb2⟩;have HT2:=h_ ht2;have HR2:=h_ (HR1.out.trans hb2);clear ht2 hb2;go_wp2_with fail
 refine hK.out _ _ (by exact (Bar.blk HR2.out H0.out hn3).cell) (fun hHeld=>?_)
 clear hK K
 try simp only [Act.put,pA_,pB_,pC_]
 refine mv_ 7 ?_
 refine mr_ 8 (fun K hK=>?_)
 go_simp
 refine (C3.out _ HT2.out HR2.out).mono ?_
 rintro e w3 ⟨rfl,ht3,hb3⟩;have HT3:=h_ ht3;have HR3:=h_ (HR2.out.trans hb3);clear ht3 hb3;go_wp2_with fail
 refine hK.out _ _ (by exact (Bar.blk HR3.out H0.out hn3).cell) (fun hHeld=>?_)
 clear hK K
 try simp only [Act.put,pA_,pB_,pC_]
 refine mr_ 12 (fun K hK=>?_)
 go_simp
 refine (C4.out _ HT3.out HR3.out).mono ?_
 rintro e w4 ⟨rfl,ht4,hb4⟩;have HT4:=h_ ht4;have HR4:=h_ (HR3.out.trans hb4);clear ht4 hb4;go_wp2_with fail
 refine hK.out _ _ (by exact (Bar.blk HR4.out H0.out hn3).cell) (fun hHeld=>?_)
 clear hK K
 try simp only [Act.put,pA_,pB_,pC_]
 refine mv_ 13 ?_
 refine mr_ 15 (fun K hK=>?_)
 go_simp
 refine (C5.out _ HT4.out HR4.out).mono ?_
 rintro e w5 ⟨rfl,ht5,hb5⟩;have HT5:=h_ ht5;have HR5:=h_ (HR4.out.trans hb5);clear ht5 hb5;go_wp2_with fail
 refine hK.out _ _ (by exact (Bar.blk HR5.out H0.out hn3).cell) (fun hHeld=>?_)
 clear hK K
 try simp only [Act.put,pA_,pB_,pC_]
 refine mv_ 16 ?_
 refine mv_ 17 ?_
 refine wpAnyH_done (by kernel_rfl) ?_ _
 go_wp2_with fail;go_ret;rw [HF.out]
 exact ⟨congrArg (fun s=>Ending.returned (Value.string s)) HFL.out,HT5.out,HB.out.trans HR5.out⟩
end Go.Proofs.YtnblmhfgmehnnaaGreatDoor
