/- Several texts as one. -/
import Derived.Test.YtnblmhfgmehnnaaGreatDoorPeFo
import Derived.Test.YtnblmhfgmehnnaaGreatDoorPeMv
import Derived.Test.YtnblmhfgmehnnaaGreatDoorPeBD
import Derived.Test.YtnblmhfgmehnnaaGreatDoorPeAU
import Derived.Test.YtnblmhfgmehnnaaGreatDoorPeAC
set_option maxRecDepth 100000
set_option maxHeartbeats 16000000
namespace Go.Proofs.YtnblmhfgmehnnaaGreatDoor
open Go.RowKit Go.Lib
attribute [local go_sem ↓] Go.wp_at_zero Go.wp_at_succ
theorem nd_k4a {gs:Nat} {A:OA_} {c:Nat} {L:LB_} {n:Nat} {x:Nd} {a:Nat} {W:World} {S:Nat->Prop} {la:OA_} {lc:Nat} {ma:OA_} {mc:Nat} {sa:OA_} {sc:Nat} {aa:OA_} {ac:Nat} {ba:OA_} {bc:Nat} {ea:OA_} {ec:Nat} (hr:RightX 6 x.x) (hp:PartsN W S la lc ma mc sa sc aa ac ba bc ea ec x) (h:StAt W gs A c L a) (hS:∀ b,S b->b≠gs) (hk:x.kind=4) (hky:x.key≠⟨#[]⟩) {sb:Nat} (hbl:LenB (wrW (ndW L n) x.body) (100*sb) (20*sb)) (CB:∀ (a':Nat) (w2:World),StAt w2 gs A c L a'->Bar W w2 gs->a'+20*sb<=1000000000->Calls Tryz.prog 11 #[.pointer (some ⟨gs,0,none⟩),.slice ba x.body.length bc] w2 (WrPost gs A c L (flatP (wrW (ndW L n) x.body a').1,(wrW (ndW L n) x.body a').2) w2)) {se:Nat} (hol:LenB (otW L n x) (50+100*se) (6+20*se)) (CO:∀ (a':Nat) (w2:World),StAt w2 gs A c L a'->Bar W w2 gs->a'+6+20*se<=1000000000->Calls Tryz.prog 47 #[.pointer (some ⟨gs,0,none⟩),.agg #[.int .i64 x.kind,.string x.text,.int .i64 x.x.kind,.int .i64 x.x.val.kind,.bool x.x.val.bool,.int .i64 x.x.val.int,.string x.x.val.str,.slice la x.x.val.list.length lc,.slice ma x.x.val.map.length mc,.string x.x.name,.slice sa x.x.steps.length sc,.slice aa x.x.args.length ac,.string x.key,.string x.name,.slice ba x.body.length bc,.slice ea x.els.length ec]] w2 (WrPost gs A c L (flatP (otW L n x a').1,(otW L n x a').2) w2)) (ha:a+20*(wtNo x+sb+se)<=1000000000) (hz:100*(wtNo x+sb+se)<=1000000):
  Calls Tryz.prog 26 #[.pointer (some ⟨gs,0,none⟩),.agg #[.int .i64 x.kind,.string x.text,.int .i64 x.x.kind,.int .i64 x.x.val.kind,.bool x.x.val.bool,.int .i64 x.x.val.int,.string x.x.val.str,.slice la x.x.val.list.length lc,.slice ma x.x.val.map.length mc,.string x.x.name,.slice sa x.x.steps.length sc,.slice aa x.x.args.length ac,.string x.key,.string x.name,.slice ba x.body.length bc,.slice ea x.els.length ec]] W (WrPost gs A c L (flatP (ndW L (n+1) x a).1,(ndW L (n+1) x a).2) W):=by
 have hwo:wtNo x=1+x.text.size+x.name.size+x.key.size+wtX 6 x.x:=rfl;have hwp:=wtX_pos (d:=6) x.x;have kws:=size_list x.key;have kwn:=size_list x.name;have hgs:=h.blk.lt;have hba:=Below.new W (.cells (aN x la lc ma mc sa sc aa ac ba bc ea ec) 70);have h0:=Blk.new W 70 (aN x la lc ma mc sa sc aa ac ba bc ea ec);have HS:=h_ (h.keep hba);have HB:=h_ (Bar.of (gc:=gs) hba);have H0:=h_ h0;have HXX:=h_ (hp.x.keep hba);have hpn:=hp.name;obtain ⟨W1,e1W⟩:∃ z,z=W.alloc (.cells (aN x la lc ma mc sa sc aa ac ba bc ea ec) 70):=⟨_,rfl⟩;obtain ⟨n3,e3W⟩:∃ z,z=W.heap.size:=⟨_,rfl⟩;rw [<-e1W] at HS HB H0 HXX;rw [<-e3W] at H0
 have hn3:n3≠gs:=by omega
 have E1:=h_ e1W;have E3:=h_ e3W;have HHS:=h_ hS;clear hba h0 e1W e3W;have gk0:(x.kind==0)=false:=bf_ (by omega);have gk1:(x.kind==1)=false:=bf_ (by omega);have gk2:(x.kind==2)=false:=bf_ (by omega);have gk3:(x.kind==3)=false:=bf_ (by omega)
 have gk4:(x.kind==4)=true:=by rw [hk];rfl
 have gky:¬ x.key.toList=[]:=fun e=>hky (emptyB e)
 have gky2:(x.key.toList==[])=false:=bf_ gky;have hpk:=hp.key;have hl1:=gap_len L a;obtain ⟨⟨v1,a1⟩,e1⟩:∃ z,z=gapW L a:=⟨_,rfl⟩;rw [<-e1] at hl1
 simp only at hl1
 obtain ⟨s1,hs1⟩:∃ z,z=bs v1:=⟨_,rfl⟩
 have z1:s1.size<=2:=by rw [hs1,bs_size];exact hl1.1
 have q1:s1.size=v1.length:=by rw [hs1,bs_size]
 have C1:=h_ (fun (w2:World) (h2:StAt w2 gs A c L a) (h3:Bar W1 w2 gs)=>show Calls Tryz.prog 35 #[.pointer (some ⟨gs,0,none⟩)] w2 (fun e w'=>e=.returned (.string s1)/\StAt w' gs A c L a1/\Bar w2 w' gs) from by have h9:=tgap gs A c L a w2 h2 (by omega);rw [<-e1] at h9;rw [hs1];exact h9);have hl2:=gap_len L a1;obtain ⟨⟨v2,a2⟩,e2⟩:∃ z,z=gapW L a1:=⟨_,rfl⟩;rw [<-e2] at hl2
 simp only at hl2
 obtain ⟨s2,hs2⟩:∃ z,z=bs v2:=⟨_,rfl⟩
 have z2:s2.size<=2:=by rw [hs2,bs_size];exact hl2.1
 have q2:s2.size=v2.length:=by rw [hs2,bs_size]
 have C2:=h_ (fun (w2:World) (h2:StAt w2 gs A c L a1) (h3:Bar W1 w2 gs)=>show Calls Tryz.prog 35 #[.pointer (some ⟨gs,0,none⟩)] w2 (fun e w'=>e=.returned (.string s2)/\StAt w' gs A c L a2/\Bar w2 w' gs) from by have h9:=tgap gs A c L a1 w2 h2 (by omega);rw [<-e2] at h9;rw [hs2];exact h9);have hl3:=gap_len L a2;obtain ⟨⟨v3,a3⟩,e3⟩:∃ z,z=gapW L a2:=⟨_,rfl⟩;rw [<-e3] at hl3
 simp only at hl3
 obtain ⟨s3,hs3⟩:∃ z,z=bs v3:=⟨_,rfl⟩
 have z3:s3.size<=2:=by rw [hs3,bs_size];exact hl3.1
 have q3:s3.size=v3.length:=by rw [hs3,bs_size]
 have C3:=h_ (fun (w2:World) (h2:StAt w2 gs A c L a2) (h3:Bar W1 w2 gs)=>show Calls Tryz.prog 35 #[.pointer (some ⟨gs,0,none⟩)] w2 (fun e w'=>e=.returned (.string s3)/\StAt w' gs A c L a3/\Bar w2 w' gs) from by have h9:=tgap gs A c L a2 w2 h2 (by omega);rw [<-e3] at h9;rw [hs3];exact h9);have hl4:=gap_len L a3;obtain ⟨⟨v4,a4⟩,e4⟩:∃ z,z=gapW L a3:=⟨_,rfl⟩;rw [<-e4] at hl4
 simp only at hl4
 obtain ⟨s4,hs4⟩:∃ z,z=bs v4:=⟨_,rfl⟩
 have z4:s4.size<=2:=by rw [hs4,bs_size];exact hl4.1
 have q4:s4.size=v4.length:=by rw [hs4,bs_size]
 have C4:=h_ (fun (w2:World) (h2:StAt w2 gs A c L a3) (h3:Bar W1 w2 gs)=>show Calls Tryz.prog 35 #[.pointer (some ⟨gs,0,none⟩)] w2 (fun e w'=>e=.returned (.string s4)/\StAt w' gs A c L a4/\Bar w2 w' gs) from by have h9:=tgap gs A c L a3 w2 h2 (by omega);rw [<-e4] at h9;rw [hs4];exact h9);have hl5:=pip_len L 7 6 x.x a4 hr (by omega);obtain ⟨⟨v5,a5⟩,e5⟩:∃ z,z=pipW L 7 x.x a4:=⟨_,rfl⟩;rw [<-e5] at hl5
 simp only at hl5
 obtain ⟨s5,hs5⟩:∃ z,z=bs v5:=⟨_,rfl⟩
 have z5:s5.size<=1000000:=by rw [hs5,bs_size];omega
 have q5:s5.size=v5.length:=by rw [hs5,bs_size]
 have C5:=h_ (fun (w2:World) (h2:StAt w2 gs A c L a4) (h3:Bar W1 w2 gs)=>show Calls Tryz.prog 18 #[.pointer (some ⟨gs,0,none⟩),.agg (aX x.x la lc ma mc sa sc aa ac)] w2 (fun e w'=>e=.returned (.string s5)/\StAt w' gs A c L a5/\Bar w2 w' gs) from by have h9:=wpipe_all (gs:=gs) (A:=A) (c:=c) (L:=L) 7 6 x.x a4 w2 S _ hr (by omega) h2 (HXX.out.bar h3 hS) hS (by omega) (by omega);unfold WrPost at h9;rw [<-e5] at h9;rw [hs5];exact h9);have hl6:=act_len L (([114,97,110,103,101]:LB_)++(v1++(([36]:LB_)++(x.key.data.toList++(([44]:LB_)++(v2++(([36]:LB_)++(x.name.data.toList++(v3++(([58,61]:LB_)++(v4++(v5)))))))))))) a5;obtain ⟨⟨v6,a6⟩,e6⟩:∃ z,z=actW L (([114,97,110,103,101]:LB_)++(v1++(([36]:LB_)++(x.key.data.toList++(([44]:LB_)++(v2++(([36]:LB_)++(x.name.data.toList++(v3++(([58,61]:LB_)++(v4++(v5)))))))))))) a5:=⟨_,rfl⟩;rw [<-e6] at hl6
 simp only at hl6
 obtain ⟨s6,hs6⟩:∃ z,z=bs (flatP v6):=⟨_,rfl⟩
 have t6:(⟨#[114,97,110,103,101]⟩++s1++⟨#[36]⟩++x.key++⟨#[44]⟩++s2++⟨#[36]⟩++x.name++s3++⟨#[58,61]⟩++s4++s5:ByteArray).data.toList=([114,97,110,103,101]:LB_)++(v1++(([36]:LB_)++(x.key.data.toList++(([44]:LB_)++(v2++(([36]:LB_)++(x.name.data.toList++(v3++(([58,61]:LB_)++(v4++(v5))))))))))):=by rw [hs1,hs2,hs3,hs4,hs5];simp only [ba_app];simp
 have y6:(⟨#[114,97,110,103,101]⟩++s1++⟨#[36]⟩++x.key++⟨#[44]⟩++s2++⟨#[36]⟩++x.name++s3++⟨#[58,61]⟩++s4++s5:ByteArray).size=5+s1.size+1+x.key.size+1+s2.size+1+x.name.size+s3.size+2+s4.size+s5.size:=by simp only [ByteArray.size_append];rfl
 have x6:(([114,97,110,103,101]:LB_)++(v1++(([36]:LB_)++(x.key.data.toList++(([44]:LB_)++(v2++(([36]:LB_)++(x.name.data.toList++(v3++(([58,61]:LB_)++(v4++(v5)))))))))))).length=5+s1.size+1+x.key.size+1+s2.size+1+x.name.size+s3.size+2+s4.size+s5.size:=by rw [<-t6,<-size_list];exact y6
 have z6:s6.size<=1000000:=by rw [hs6,bs_size];omega
 have nf1:¬ 9223372036854775807 < 5+s1.size:=by omega
 have nf2:¬ 9223372036854775807 < 5+s1.size+1:=by omega
 have nf3:¬ 9223372036854775807 < 5+s1.size+1+x.key.size:=by omega
 have nf4:¬ 9223372036854775807 < 5+s1.size+1+x.key.size+1:=by omega
 have nf5:¬ 9223372036854775807 < 5+s1.size+1+x.key.size+1+s2.size:=by omega
 have nf6:¬ 9223372036854775807 < 5+s1.size+1+x.key.size+1+s2.size+1:=by omega
 have nf7:¬ 9223372036854775807 < 5+s1.size+1+x.key.size+1+s2.size+1+x.name.size:=by omega
 have nf8:¬ 9223372036854775807 < 5+s1.size+1+x.key.size+1+s2.size+1+x.name.size+s3.size:=by omega
 have nf9:¬ 9223372036854775807 < 5+s1.size+1+x.key.size+1+s2.size+1+x.name.size+s3.size+2:=by omega
 have nf10:¬ 9223372036854775807 < 5+s1.size+1+x.key.size+1+s2.size+1+x.name.size+s3.size+2+s4.size:=by omega
 have nf11:¬ 9223372036854775807 < 5+s1.size+1+x.key.size+1+s2.size+1+x.name.size+s3.size+2+s4.size+s5.size:=by omega
 have C6:=h_ (fun (w2:World) (h2:StAt w2 gs A c L a5) (h3:Bar W1 w2 gs)=>show Calls Tryz.prog 46 #[.pointer (some ⟨gs,0,none⟩),.string (⟨#[114,97,110,103,101]⟩++s1++⟨#[36]⟩++x.key++⟨#[44]⟩++s2++⟨#[36]⟩++x.name++s3++⟨#[58,61]⟩++s4++s5)] w2 (fun e w'=>e=.returned (.string s6)/\StAt w' gs A c L a6/\Bar w2 w' gs) from by have h9:=taction gs A c L a5 (⟨#[114,97,110,103,101]⟩++s1++⟨#[36]⟩++x.key++⟨#[44]⟩++s2++⟨#[36]⟩++x.name++s3++⟨#[58,61]⟩++s4++s5) w2 h2 (by omega) (by omega);unfold WrPost at h9;rw [t6,<-e6] at h9;rw [hs6];exact h9);have hl7:=hbl a6;obtain ⟨⟨v7,a7⟩,e7⟩:∃ z,z=wrW (ndW L n) x.body a6:=⟨_,rfl⟩;rw [<-e7] at hl7
 simp only at hl7
 obtain ⟨s7,hs7⟩:∃ z,z=bs (flatP v7):=⟨_,rfl⟩
 have z7:s7.size<=1000000:=by rw [hs7,bs_size];omega
 have C7:=h_ (fun (w2:World) (h2:StAt w2 gs A c L a6) (h3:Bar W1 w2 gs)=>show Calls Tryz.prog 11 #[.pointer (some ⟨gs,0,none⟩),.slice ba x.body.length bc] w2 (fun e w'=>e=.returned (.string s7)/\StAt w' gs A c L a7/\Bar w2 w' gs) from by have h9:=CB a6 w2 h2 (HB.out.trans h3) (by omega);unfold WrPost at h9;rw [<-e7] at h9;rw [hs7];exact h9);have hl8:=hol a7;obtain ⟨⟨v8,a8⟩,e8⟩:∃ z,z=otW L n x a7:=⟨_,rfl⟩;rw [<-e8] at hl8
 simp only at hl8
 obtain ⟨s8,hs8⟩:∃ z,z=bs (flatP v8):=⟨_,rfl⟩
 have z8:s8.size<=1000000:=by rw [hs8,bs_size];omega
 have C8:=h_ (fun (w2:World) (h2:StAt w2 gs A c L a7) (h3:Bar W1 w2 gs)=>show Calls Tryz.prog 47 #[.pointer (some ⟨gs,0,none⟩),.agg (aN x la lc ma mc sa sc aa ac ba bc ea ec)] w2 (fun e w'=>e=.returned (.string s8)/\StAt w' gs A c L a8/\Bar w2 w' gs) from by have h9:=CO a7 w2 h2 (HB.out.trans h3) (by omega);unfold WrPost at h9;rw [<-e8] at h9;rw [hs8];exact h9)
 have hmid:midW L x a=(v1++(([36]:LB_)++(x.key.data.toList++(([44]:LB_)++(v2++(([36]:LB_)++(x.name.data.toList++(v3++(([58,61]:LB_)++(v4))))))))),a4):=by unfold midW;rw [if_pos hk,if_pos hky];unfold letW;rw [<-e1];simp only;rw [<-e2];simp only;rw [<-e3];simp only;rw [<-e4];simp
 have hhd:headW L x a=(([114,97,110,103,101]:LB_)++(v1++(([36]:LB_)++(x.key.data.toList++(([44]:LB_)++(v2++(([36]:LB_)++(x.name.data.toList++(v3++(([58,61]:LB_)++(v4++(v5))))))))))),a5):=by unfold headW;rw [hmid];simp only;rw [<-e5,hk];rw [show kwW 4=[114,97,110,103,101] from rfl];simp
 have HF:=h_ (show ndW L (n+1) x a=(v6++(v7++v8),a8) from by rw [ndW,if_neg (by omega),if_neg (by omega),if_neg (by omega),if_neg (by omega),hhd];exact blk_eq e6 e7 e8);have HFL:=h_ (show s6++s7++s8=bs (flatP (v6++(v7++v8))) from by rw [hs6,hs7,hs8];exact ba_extA (by simp only [flatP_app,ba_app];simp))
 have nf12:¬ 9223372036854775807 < s6.size+s7.size:=by omega
 have nf13:¬ 9223372036854775807 < s6.size+s7.size+s8.size:=by omega
 clear hpn hp h hS hwo hwp kws kwn hgs hpk q1 q2 q3 q4 q5 t6 y6 x6 e1 hs1 hl1 e2 hs2 hl2 e3 hs3 hl3 e4 hs4 hl4 e5 hs5 hl5 e6 hs6 hl6 e7 hs7 hl7 e8 hs8 hl8 hk ha hz hbl CB hol CO hmid hhd hr HXX hky;have k0:=H0.out.cell;have f0:=H0.out.frozen;have l0:=H0.out.lt;unfold aN aX at *
 go_enter Tryz.func26,Tryz.ntmps26
 go_upto_region 1 with fail;rw [<-E1.out,<-E3.out];clear E1 E3;go_wp2_with fail
 refine (C1.out _ HS.out (Bar.refl W1 gs)).mono ?_
 rintro e w1 ⟨rfl,ht1,hb1⟩;have HT1:=h_ ht1;have HR1:=h_ ((Bar.refl W1 gs).trans hb1);clear ht1 hb1;have H01:=h_ (HR1.out.blk H0.out hn3);clear k0 f0 l0;have k0:=H01.out.cell;have f0:=H01.out.frozen;have l0:=H01.out.lt;go_upto_region 13 with fail
 refine wp_region_held_drew (S:=(fun w'=>∀ i,w'.cell? ⟨n3,i,none⟩=(#[.int .i64 x.kind,.string x.text,.int .i64 x.x.kind,.int .i64 x.x.val.kind,.bool x.x.val.bool,.int .i64 x.x.val.int,.string x.x.val.str,.slice la x.x.val.list.length lc,.slice ma x.x.val.map.length mc,.string x.x.name,.slice sa x.x.steps.length sc,.slice aa x.x.args.length ac,.string x.key,.string x.name,.slice ba x.body.length bc,.slice ea x.els.length ec]:Array Value)[i]?)) (by kernel_rfl) (by exact (Bar.blk (HR1.out.trans (Bar.of ((Below.refl _ _).drew))) H0.out hn3).cell) (fun hHeld=>?_)
 refine mv_ 0 ?_
 refine mv_ 1 ?_
 refine mv_ 2 ?_
 refine mv_ 3 ?_
 refine mv_ 4 ?_
 refine mv_ 5 ?_
 refine mv_ 6 ?_
 refine mv_ 10 ?_
 refine mv_ 11 ?_
 refine mv_ 13 ?_
 refine mv_ 17 ?_
 refine mr_ 7 (fun K hK=>?_)
 go_simp
 refine (C2.out _ (HT1.out.keep ((Below.refl _ _).drew)) (HR1.out.trans (Bar.of ((Below.refl _ _).drew)))).mono ?_
 rintro e w2 ⟨rfl,ht2,hb2⟩;have HT2:=h_ ht2;have HR2:=h_ ((HR1.out.trans (Bar.of ((Below.refl _ _).drew))).trans hb2);clear ht2 hb2;go_wp2_with fail
 refine hK.out _ _ (by exact (Bar.blk HR2.out H0.out hn3).cell) (fun hHeld=>?_)
 clear hK K
 try simp only [Act.put,pA_,pB_,pC_]
 refine mv_ 8 ?_
 refine mv_ 9 ?_
 refine mv_ 12 ?_
 refine mr_ 14 (fun K hK=>?_)
 go_simp
 refine (C3.out _ HT2.out HR2.out).mono ?_
 rintro e w3 ⟨rfl,ht3,hb3⟩;have HT3:=h_ ht3;have HR3:=h_ (HR2.out.trans hb3);clear ht3 hb3;go_wp2_with fail
 refine hK.out _ _ (by exact (Bar.blk HR3.out H0.out hn3).cell) (fun hHeld=>?_)
 clear hK K
 try simp only [Act.put,pA_,pB_,pC_]
 refine mv_ 15 ?_
 refine mv_ 16 ?_
 refine mr_ 18 (fun K hK=>?_)
 go_simp
 refine (C4.out _ HT3.out HR3.out).mono ?_
 rintro e w4 ⟨rfl,ht4,hb4⟩;have HT4:=h_ ht4;have HR4:=h_ (HR3.out.trans hb4);clear ht4 hb4;go_wp2_with fail
 refine hK.out _ _ (by exact (Bar.blk HR4.out H0.out hn3).cell) (fun hHeld=>?_)
 clear hK K
 try simp only [Act.put,pA_,pB_,pC_]
 refine mv_ 19 ?_
 refine mv_ 20 ?_
 refine wpAnyH_done (by kernel_rfl) ?_ _
 have H0z:=h_ (HR4.out.blk H0.out hn3);clear k0 f0 l0;have k0:=H0z.out.cell;have f0:=H0z.out.frozen;have l0:=H0z.out.lt;go_upto_region 16 with fail
 refine wp_region_held_drew (S:=(fun w'=>∀ i,w'.cell? ⟨n3,i,none⟩=(#[.int .i64 x.kind,.string x.text,.int .i64 x.x.kind,.int .i64 x.x.val.kind,.bool x.x.val.bool,.int .i64 x.x.val.int,.string x.x.val.str,.slice la x.x.val.list.length lc,.slice ma x.x.val.map.length mc,.string x.x.name,.slice sa x.x.steps.length sc,.slice aa x.x.args.length ac,.string x.key,.string x.name,.slice ba x.body.length bc,.slice ea x.els.length ec]:Array Value)[i]?)) (by kernel_rfl) (by exact (Bar.blk (HR4.out.trans (Bar.of ((Below.refl _ _).drew))) H0.out hn3).cell) (fun hHeld=>?_)
 refine mv_ 0 ?_
 refine mv_ 1 ?_
 refine mv_ 2 ?_
 refine mv_ 3 ?_
 refine mv_ 4 ?_
 refine mv_ 8 ?_
 refine mv_ 9 ?_
 refine mv_ 10 ?_
 refine mv_ 13 ?_
 refine mv_ 14 ?_
 refine mr_ 5 (fun K hK=>?_)
 go_simp
 refine (C5.out _ (HT4.out.keep ((Below.refl _ _).drew)) (HR4.out.trans (Bar.of ((Below.refl _ _).drew)))).mono ?_
 rintro e w5 ⟨rfl,ht5,hb5⟩;have HT5:=h_ ht5;have HR5:=h_ ((HR4.out.trans (Bar.of ((Below.refl _ _).drew))).trans hb5);clear ht5 hb5;go_wp2_with fail
 refine hK.out _ _ (by exact (Bar.blk HR5.out H0.out hn3).cell) (fun hHeld=>?_)
 clear hK K
 try simp only [Act.put,pA_,pB_,pC_]
 refine mv_ 6 ?_
 refine mr_ 7 (fun K hK=>?_)
 go_simp
 refine (C6.out _ HT5.out HR5.out).mono ?_
 rintro e w6 ⟨rfl,ht6,hb6⟩;have HT6:=h_ ht6;have HR6:=h_ (HR5.out.trans hb6);clear ht6 hb6;go_wp2_with fail
 refine hK.out _ _ (by exact (Bar.blk HR6.out H0.out hn3).cell) (fun hHeld=>?_)
 clear hK K
 try simp only [Act.put,pA_,pB_,pC_]
 refine mr_ 11 (fun K hK=>?_)
 go_simp
 refine (C7.out _ HT6.out HR6.out).mono ?_
 rintro e w7 ⟨rfl,ht7,hb7⟩;have HT7:=h_ ht7;have HR7:=h_ (HR6.out.trans hb7);clear ht7 hb7;go_wp2_with fail
 refine hK.out _ _ (by exact (Bar.blk HR7.out H0.out hn3).cell) (fun hHeld=>?_)
 clear hK K
 try simp only [Act.put,pA_,pB_,pC_]
 refine mv_ 12 ?_
 refine mr_ 15 (fun K hK=>?_)
 go_simp
 refine (C8.out _ HT7.out HR7.out).mono ?_
 rintro e w8 ⟨rfl,ht8,hb8⟩;have HT8:=h_ ht8;have HR8:=h_ (HR7.out.trans hb8);clear ht8 hb8;go_wp2_with fail
 refine hK.out _ _ (by exact (Bar.blk HR8.out H0.out hn3).cell) (fun hHeld=>?_)
 clear hK K
 try simp only [Act.put,pA_,pB_,pC_]
 refine mv_ 16 ?_
 refine mv_ 17 ?_
 refine wpAnyH_done (by kernel_rfl) ?_ _
 go_wp2_with fail;go_ret;rw [HF.out]
 exact ⟨congrArg (fun s=>Ending.returned (Value.string s)) HFL.out,HT8.out,HB.out.trans HR8.out⟩
theorem nd_k4b {gs:Nat} {A:OA_} {c:Nat} {L:LB_} {n:Nat} {x:Nd} {a:Nat} {W:World} {S:Nat->Prop} {la:OA_} {lc:Nat} {ma:OA_} {mc:Nat} {sa:OA_} {sc:Nat} {aa:OA_} {ac:Nat} {ba:OA_} {bc:Nat} {ea:OA_} {ec:Nat} (hr:RightX 6 x.x) (hp:PartsN W S la lc ma mc sa sc aa ac ba bc ea ec x) (h:StAt W gs A c L a) (hS:∀ b,S b->b≠gs) (hk:x.kind=4) (hky:x.key=⟨#[]⟩) (hnm:x.name≠⟨#[]⟩) {sb:Nat} (hbl:LenB (wrW (ndW L n) x.body) (100*sb) (20*sb)) (CB:∀ (a':Nat) (w2:World),StAt w2 gs A c L a'->Bar W w2 gs->a'+20*sb<=1000000000->Calls Tryz.prog 11 #[.pointer (some ⟨gs,0,none⟩),.slice ba x.body.length bc] w2 (WrPost gs A c L (flatP (wrW (ndW L n) x.body a').1,(wrW (ndW L n) x.body a').2) w2)) {se:Nat} (hol:LenB (otW L n x) (50+100*se) (6+20*se)) (CO:∀ (a':Nat) (w2:World),StAt w2 gs A c L a'->Bar W w2 gs->a'+6+20*se<=1000000000->Calls Tryz.prog 47 #[.pointer (some ⟨gs,0,none⟩),.agg #[.int .i64 x.kind,.string x.text,.int .i64 x.x.kind,.int .i64 x.x.val.kind,.bool x.x.val.bool,.int .i64 x.x.val.int,.string x.x.val.str,.slice la x.x.val.list.length lc,.slice ma x.x.val.map.length mc,.string x.x.name,.slice sa x.x.steps.length sc,.slice aa x.x.args.length ac,.string x.key,.string x.name,.slice ba x.body.length bc,.slice ea x.els.length ec]] w2 (WrPost gs A c L (flatP (otW L n x a').1,(otW L n x a').2) w2)) (ha:a+20*(wtNo x+sb+se)<=1000000000) (hz:100*(wtNo x+sb+se)<=1000000):
  Calls Tryz.prog 26 #[.pointer (some ⟨gs,0,none⟩),.agg #[.int .i64 x.kind,.string x.text,.int .i64 x.x.kind,.int .i64 x.x.val.kind,.bool x.x.val.bool,.int .i64 x.x.val.int,.string x.x.val.str,.slice la x.x.val.list.length lc,.slice ma x.x.val.map.length mc,.string x.x.name,.slice sa x.x.steps.length sc,.slice aa x.x.args.length ac,.string x.key,.string x.name,.slice ba x.body.length bc,.slice ea x.els.length ec]] W (WrPost gs A c L (flatP (ndW L (n+1) x a).1,(ndW L (n+1) x a).2) W):=by
 have hwo:wtNo x=1+x.text.size+x.name.size+x.key.size+wtX 6 x.x:=rfl;have hwp:=wtX_pos (d:=6) x.x;have kws:=size_list x.key;have kwn:=size_list x.name;have hgs:=h.blk.lt;have hba:=Below.new W (.cells (aN x la lc ma mc sa sc aa ac ba bc ea ec) 70);have h0:=Blk.new W 70 (aN x la lc ma mc sa sc aa ac ba bc ea ec);have HS:=h_ (h.keep hba);have HB:=h_ (Bar.of (gc:=gs) hba);have H0:=h_ h0;have HXX:=h_ (hp.x.keep hba);have hpn:=hp.name;obtain ⟨W1,e1W⟩:∃ z,z=W.alloc (.cells (aN x la lc ma mc sa sc aa ac ba bc ea ec) 70):=⟨_,rfl⟩;obtain ⟨n3,e3W⟩:∃ z,z=W.heap.size:=⟨_,rfl⟩;rw [<-e1W] at HS HB H0 HXX;rw [<-e3W] at H0
 have hn3:n3≠gs:=by omega
 have E1:=h_ e1W;have E3:=h_ e3W;have HHS:=h_ hS;clear hba h0 e1W e3W;have gk0:(x.kind==0)=false:=bf_ (by omega);have gk1:(x.kind==1)=false:=bf_ (by omega);have gk2:(x.kind==2)=false:=bf_ (by omega);have gk3:(x.kind==3)=false:=bf_ (by omega)
 have gk4:(x.kind==4)=true:=by rw [hk];rfl
 have gky:x.key.toList=[]:=by rw [hky,ByteArray.toList_eq]
 have gky2:(x.key.toList==[])=true:=by rw [gky];rfl
 have gnm:¬ x.name.toList=[]:=fun e=>hnm (emptyB e)
 have gnm2:(x.name.toList==[])=false:=bf_ gnm;have hpk:=hp.key;have hl1:=gap_len L a;obtain ⟨⟨v1,a1⟩,e1⟩:∃ z,z=gapW L a:=⟨_,rfl⟩;rw [<-e1] at hl1
 simp only at hl1
 obtain ⟨s1,hs1⟩:∃ z,z=bs v1:=⟨_,rfl⟩
 have z1:s1.size<=2:=by rw [hs1,bs_size];exact hl1.1
 have q1:s1.size=v1.length:=by rw [hs1,bs_size]
 have C1:=h_ (fun (w2:World) (h2:StAt w2 gs A c L a) (h3:Bar W1 w2 gs)=>show Calls Tryz.prog 35 #[.pointer (some ⟨gs,0,none⟩)] w2 (fun e w'=>e=.returned (.string s1)/\StAt w' gs A c L a1/\Bar w2 w' gs) from by have h9:=tgap gs A c L a w2 h2 (by omega);rw [<-e1] at h9;rw [hs1];exact h9);have hl2:=gap_len L a1;obtain ⟨⟨v2,a2⟩,e2⟩:∃ z,z=gapW L a1:=⟨_,rfl⟩;rw [<-e2] at hl2
 simp only at hl2
 obtain ⟨s2,hs2⟩:∃ z,z=bs v2:=⟨_,rfl⟩
 have z2:s2.size<=2:=by rw [hs2,bs_size];exact hl2.1
 have q2:s2.size=v2.length:=by rw [hs2,bs_size]
 have C2:=h_ (fun (w2:World) (h2:StAt w2 gs A c L a1) (h3:Bar W1 w2 gs)=>show Calls Tryz.prog 35 #[.pointer (some ⟨gs,0,none⟩)] w2 (fun e w'=>e=.returned (.string s2)/\StAt w' gs A c L a2/\Bar w2 w' gs) from by have h9:=tgap gs A c L a1 w2 h2 (by omega);rw [<-e2] at h9;rw [hs2];exact h9);have hl3:=gap_len L a2;obtain ⟨⟨v3,a3⟩,e3⟩:∃ z,z=gapW L a2:=⟨_,rfl⟩;rw [<-e3] at hl3
 simp only at hl3
 obtain ⟨s3,hs3⟩:∃ z,z=bs v3:=⟨_,rfl⟩
 have z3:s3.size<=2:=by rw [hs3,bs_size];exact hl3.1
 have q3:s3.size=v3.length:=by rw [hs3,bs_size]
 have C3:=h_ (fun (w2:World) (h2:StAt w2 gs A c L a2) (h3:Bar W1 w2 gs)=>show Calls Tryz.prog 35 #[.pointer (some ⟨gs,0,none⟩)] w2 (fun e w'=>e=.returned (.string s3)/\StAt w' gs A c L a3/\Bar w2 w' gs) from by have h9:=tgap gs A c L a2 w2 h2 (by omega);rw [<-e3] at h9;rw [hs3];exact h9);have hl4:=pip_len L 7 6 x.x a3 hr (by omega);obtain ⟨⟨v4,a4⟩,e4⟩:∃ z,z=pipW L 7 x.x a3:=⟨_,rfl⟩;rw [<-e4] at hl4
 simp only at hl4
 obtain ⟨s4,hs4⟩:∃ z,z=bs v4:=⟨_,rfl⟩
 have z4:s4.size<=1000000:=by rw [hs4,bs_size];omega
 have q4:s4.size=v4.length:=by rw [hs4,bs_size]
 have C4:=h_ (fun (w2:World) (h2:StAt w2 gs A c L a3) (h3:Bar W1 w2 gs)=>show Calls Tryz.prog 18 #[.pointer (some ⟨gs,0,none⟩),.agg (aX x.x la lc ma mc sa sc aa ac)] w2 (fun e w'=>e=.returned (.string s4)/\StAt w' gs A c L a4/\Bar w2 w' gs) from by have h9:=wpipe_all (gs:=gs) (A:=A) (c:=c) (L:=L) 7 6 x.x a3 w2 S _ hr (by omega) h2 (HXX.out.bar h3 hS) hS (by omega) (by omega);unfold WrPost at h9;rw [<-e4] at h9;rw [hs4];exact h9);have hl5:=act_len L (([114,97,110,103,101]:LB_)++(v1++(([36]:LB_)++(x.name.data.toList++(v2++(([58,61]:LB_)++(v3++(v4)))))))) a4;obtain ⟨⟨v5,a5⟩,e5⟩:∃ z,z=actW L (([114,97,110,103,101]:LB_)++(v1++(([36]:LB_)++(x.name.data.toList++(v2++(([58,61]:LB_)++(v3++(v4)))))))) a4:=⟨_,rfl⟩;rw [<-e5] at hl5
 simp only at hl5
 obtain ⟨s5,hs5⟩:∃ z,z=bs (flatP v5):=⟨_,rfl⟩
 have t5:(⟨#[114,97,110,103,101]⟩++s1++⟨#[36]⟩++x.name++s2++⟨#[58,61]⟩++s3++s4:ByteArray).data.toList=([114,97,110,103,101]:LB_)++(v1++(([36]:LB_)++(x.name.data.toList++(v2++(([58,61]:LB_)++(v3++(v4))))))):=by rw [hs1,hs2,hs3,hs4];simp only [ba_app];simp
 have y5:(⟨#[114,97,110,103,101]⟩++s1++⟨#[36]⟩++x.name++s2++⟨#[58,61]⟩++s3++s4:ByteArray).size=5+s1.size+1+x.name.size+s2.size+2+s3.size+s4.size:=by simp only [ByteArray.size_append];rfl
 have x5:(([114,97,110,103,101]:LB_)++(v1++(([36]:LB_)++(x.name.data.toList++(v2++(([58,61]:LB_)++(v3++(v4)))))))).length=5+s1.size+1+x.name.size+s2.size+2+s3.size+s4.size:=by rw [<-t5,<-size_list];exact y5
 have z5:s5.size<=1000000:=by rw [hs5,bs_size];omega
 have nf1:¬ 9223372036854775807 < 5+s1.size:=by omega
 have nf2:¬ 9223372036854775807 < 5+s1.size+1:=by omega
 have nf3:¬ 9223372036854775807 < 5+s1.size+1+x.name.size:=by omega
 have nf4:¬ 9223372036854775807 < 5+s1.size+1+x.name.size+s2.size:=by omega
 have nf5:¬ 9223372036854775807 < 5+s1.size+1+x.name.size+s2.size+2:=by omega
 have nf6:¬ 9223372036854775807 < 5+s1.size+1+x.name.size+s2.size+2+s3.size:=by omega
 have nf7:¬ 9223372036854775807 < 5+s1.size+1+x.name.size+s2.size+2+s3.size+s4.size:=by omega
 have C5:=h_ (fun (w2:World) (h2:StAt w2 gs A c L a4) (h3:Bar W1 w2 gs)=>show Calls Tryz.prog 46 #[.pointer (some ⟨gs,0,none⟩),.string (⟨#[114,97,110,103,101]⟩++s1++⟨#[36]⟩++x.name++s2++⟨#[58,61]⟩++s3++s4)] w2 (fun e w'=>e=.returned (.string s5)/\StAt w' gs A c L a5/\Bar w2 w' gs) from by have h9:=taction gs A c L a4 (⟨#[114,97,110,103,101]⟩++s1++⟨#[36]⟩++x.name++s2++⟨#[58,61]⟩++s3++s4) w2 h2 (by omega) (by omega);unfold WrPost at h9;rw [t5,<-e5] at h9;rw [hs5];exact h9);have hl6:=hbl a5;obtain ⟨⟨v6,a6⟩,e6⟩:∃ z,z=wrW (ndW L n) x.body a5:=⟨_,rfl⟩;rw [<-e6] at hl6
 simp only at hl6
 obtain ⟨s6,hs6⟩:∃ z,z=bs (flatP v6):=⟨_,rfl⟩
 have z6:s6.size<=1000000:=by rw [hs6,bs_size];omega
 have C6:=h_ (fun (w2:World) (h2:StAt w2 gs A c L a5) (h3:Bar W1 w2 gs)=>show Calls Tryz.prog 11 #[.pointer (some ⟨gs,0,none⟩),.slice ba x.body.length bc] w2 (fun e w'=>e=.returned (.string s6)/\StAt w' gs A c L a6/\Bar w2 w' gs) from by have h9:=CB a5 w2 h2 (HB.out.trans h3) (by omega);unfold WrPost at h9;rw [<-e6] at h9;rw [hs6];exact h9);have hl7:=hol a6;obtain ⟨⟨v7,a7⟩,e7⟩:∃ z,z=otW L n x a6:=⟨_,rfl⟩;rw [<-e7] at hl7
 simp only at hl7
 obtain ⟨s7,hs7⟩:∃ z,z=bs (flatP v7):=⟨_,rfl⟩
 have z7:s7.size<=1000000:=by rw [hs7,bs_size];omega
 have C7:=h_ (fun (w2:World) (h2:StAt w2 gs A c L a6) (h3:Bar W1 w2 gs)=>show Calls Tryz.prog 47 #[.pointer (some ⟨gs,0,none⟩),.agg (aN x la lc ma mc sa sc aa ac ba bc ea ec)] w2 (fun e w'=>e=.returned (.string s7)/\StAt w' gs A c L a7/\Bar w2 w' gs) from by have h9:=CO a6 w2 h2 (HB.out.trans h3) (by omega);unfold WrPost at h9;rw [<-e7] at h9;rw [hs7];exact h9)
 have hmid:midW L x a=(v1++(([36]:LB_)++(x.name.data.toList++(v2++(([58,61]:LB_)++(v3))))),a3):=by unfold midW;rw [if_pos hk,if_neg (fun h=>h hky),if_pos hnm];unfold letW;rw [<-e1];simp only;rw [<-e2];simp only;rw [<-e3];simp
 have hhd:headW L x a=(([114,97,110,103,101]:LB_)++(v1++(([36]:LB_)++(x.name.data.toList++(v2++(([58,61]:LB_)++(v3++(v4))))))),a4):=by unfold headW;rw [hmid];simp only;rw [<-e4,hk];rw [show kwW 4=[114,97,110,103,101] from rfl];simp
 have HF:=h_ (show ndW L (n+1) x a=(v5++(v6++v7),a7) from by rw [ndW,if_neg (by omega),if_neg (by omega),if_neg (by omega),if_neg (by omega),hhd];exact blk_eq e5 e6 e7);have HFL:=h_ (show s5++s6++s7=bs (flatP (v5++(v6++v7))) from by rw [hs5,hs6,hs7];exact ba_extA (by simp only [flatP_app,ba_app];simp))
 have nf8:¬ 9223372036854775807 < s5.size+s6.size:=by omega
 have nf9:¬ 9223372036854775807 < s5.size+s6.size+s7.size:=by omega
 clear hpn hp h hS hwo hwp kws kwn hgs hpk q1 q2 q3 q4 t5 y5 x5 e1 hs1 hl1 e2 hs2 hl2 e3 hs3 hl3 e4 hs4 hl4 e5 hs5 hl5 e6 hs6 hl6 e7 hs7 hl7 hk ha hz hbl CB hol CO hmid hhd hr HXX hky hnm;have k0:=H0.out.cell;have f0:=H0.out.frozen;have l0:=H0.out.lt;unfold aN aX at *
 go_enter Tryz.func26,Tryz.ntmps26
 go_upto_region 1 with fail;rw [<-E1.out,<-E3.out];clear E1 E3;go_wp2_with fail
 refine (C1.out _ HS.out (Bar.refl W1 gs)).mono ?_
 rintro e w1 ⟨rfl,ht1,hb1⟩;have HT1:=h_ ht1;have HR1:=h_ ((Bar.refl W1 gs).trans hb1);clear ht1 hb1;have H01:=h_ (HR1.out.blk H0.out hn3);clear k0 f0 l0;have k0:=H01.out.cell;have f0:=H01.out.frozen;have l0:=H01.out.lt;go_upto_region 15 with fail
 refine wp_region_held_drew (S:=(fun w'=>∀ i,w'.cell? ⟨n3,i,none⟩=(#[.int .i64 x.kind,.string x.text,.int .i64 x.x.kind,.int .i64 x.x.val.kind,.bool x.x.val.bool,.int .i64 x.x.val.int,.string x.x.val.str,.slice la x.x.val.list.length lc,.slice ma x.x.val.map.length mc,.string x.x.name,.slice sa x.x.steps.length sc,.slice aa x.x.args.length ac,.string x.key,.string x.name,.slice ba x.body.length bc,.slice ea x.els.length ec]:Array Value)[i]?)) (by kernel_rfl) (by exact (Bar.blk (HR1.out.trans (Bar.of ((Below.refl _ _).drew))) H0.out hn3).cell) (fun hHeld=>?_)
 refine mv_ 0 ?_
 refine mv_ 1 ?_
 refine mv_ 2 ?_
 refine mv_ 3 ?_
 refine mv_ 4 ?_
 refine mv_ 5 ?_
 refine mv_ 9 ?_
 refine mr_ 6 (fun K hK=>?_)
 go_simp
 refine (C2.out _ (HT1.out.keep ((Below.refl _ _).drew)) (HR1.out.trans (Bar.of ((Below.refl _ _).drew)))).mono ?_
 rintro e w2 ⟨rfl,ht2,hb2⟩;have HT2:=h_ ht2;have HR2:=h_ ((HR1.out.trans (Bar.of ((Below.refl _ _).drew))).trans hb2);clear ht2 hb2;go_wp2_with fail
 refine hK.out _ _ (by exact (Bar.blk HR2.out H0.out hn3).cell) (fun hHeld=>?_)
 clear hK K
 try simp only [Act.put,pA_,pB_,pC_]
 refine mv_ 7 ?_
 refine mv_ 8 ?_
 refine mr_ 10 (fun K hK=>?_)
 go_simp
 refine (C3.out _ HT2.out HR2.out).mono ?_
 rintro e w3 ⟨rfl,ht3,hb3⟩;have HT3:=h_ ht3;have HR3:=h_ (HR2.out.trans hb3);clear ht3 hb3;go_wp2_with fail
 refine hK.out _ _ (by exact (Bar.blk HR3.out H0.out hn3).cell) (fun hHeld=>?_)
 clear hK K
 try simp only [Act.put,pA_,pB_,pC_]
 refine mv_ 11 ?_
 refine mv_ 12 ?_
 refine wpAnyH_done (by kernel_rfl) ?_ _
 have H0z:=h_ (HR3.out.blk H0.out hn3);clear k0 f0 l0;have k0:=H0z.out.cell;have f0:=H0z.out.frozen;have l0:=H0z.out.lt;go_upto_region 16 with fail
 refine wp_region_held_drew (S:=(fun w'=>∀ i,w'.cell? ⟨n3,i,none⟩=(#[.int .i64 x.kind,.string x.text,.int .i64 x.x.kind,.int .i64 x.x.val.kind,.bool x.x.val.bool,.int .i64 x.x.val.int,.string x.x.val.str,.slice la x.x.val.list.length lc,.slice ma x.x.val.map.length mc,.string x.x.name,.slice sa x.x.steps.length sc,.slice aa x.x.args.length ac,.string x.key,.string x.name,.slice ba x.body.length bc,.slice ea x.els.length ec]:Array Value)[i]?)) (by kernel_rfl) (by exact (Bar.blk (HR3.out.trans (Bar.of ((Below.refl _ _).drew))) H0.out hn3).cell) (fun hHeld=>?_)
 refine mv_ 0 ?_
 refine mv_ 1 ?_
 refine mv_ 2 ?_
 refine mv_ 3 ?_
 refine mv_ 4 ?_
 refine mv_ 8 ?_
 refine mv_ 9 ?_
 refine mv_ 10 ?_
 refine mv_ 13 ?_
 refine mv_ 14 ?_
 refine mr_ 5 (fun K hK=>?_)
 go_simp
 refine (C4.out _ (HT3.out.keep ((Below.refl _ _).drew)) (HR3.out.trans (Bar.of ((Below.refl _ _).drew)))).mono ?_
 rintro e w4 ⟨rfl,ht4,hb4⟩;have HT4:=h_ ht4;have HR4:=h_ ((HR3.out.trans (Bar.of ((Below.refl _ _).drew))).trans hb4);clear ht4 hb4;go_wp2_with fail
 refine hK.out _ _ (by exact (Bar.blk HR4.out H0.out hn3).cell) (fun hHeld=>?_)
 clear hK K
 try simp only [Act.put,pA_,pB_,pC_]
 refine mv_ 6 ?_
 refine mr_ 7 (fun K hK=>?_)
 go_simp
 refine (C5.out _ HT4.out HR4.out).mono ?_
 rintro e w5 ⟨rfl,ht5,hb5⟩;have HT5:=h_ ht5;have HR5:=h_ (HR4.out.trans hb5);clear ht5 hb5;go_wp2_with fail
 refine hK.out _ _ (by exact (Bar.blk HR5.out H0.out hn3).cell) (fun hHeld=>?_)
 clear hK K
 try simp only [Act.put,pA_,pB_,pC_]
 refine mr_ 11 (fun K hK=>?_)
 go_simp
 refine (C6.out _ HT5.out HR5.out).mono ?_
 rintro e w6 ⟨rfl,ht6,hb6⟩;have HT6:=h_ ht6;have HR6:=h_ (HR5.out.trans hb6);clear ht6 hb6;go_wp2_with fail
 refine hK.out _ _ (by exact (Bar.blk HR6.out H0.out hn3).cell) (fun hHeld=>?_)
 clear hK K
 try simp only [Act.put,pA_,pB_,pC_]
 refine mv_ 12 ?_
 refine mr_ 15 (fun K hK=>?_)
 go_simp
 refine (C7.out _ HT6.out HR6.out).mono ?_
 rintro e w7 ⟨rfl,ht7,hb7⟩;have HT7:=h_ ht7;have HR7:=h_ (HR6.out.trans hb7);clear ht7 hb7;go_wp2_with fail
 refine hK.out _ _ (by exact (Bar.blk HR7.out H0.out hn3).cell) (fun hHeld=>?_)
 clear hK K
 try simp only [Act.put,pA_,pB_,pC_]
 refine mv_ 16 ?_
 refine mv_ 17 ?_
 refine wpAnyH_done (by kernel_rfl) ?_ _
 go_wp2_with fail;go_ret;rw [HF.out]
 exact ⟨congrArg (fun s=>Ending.returned (Value.string s)) HFL.out,HT7.out,HB.out.trans HR7.out⟩
theorem nd_k4c {gs:Nat} {A:OA_} {c:Nat} {L:LB_} {n:Nat} {x:Nd} {a:Nat} {W:World} {S:Nat->Prop} {la:OA_} {lc:Nat} {ma:OA_} {mc:Nat} {sa:OA_} {sc:Nat} {aa:OA_} {ac:Nat} {ba:OA_} {bc:Nat} {ea:OA_} {ec:Nat} (hr:RightX 6 x.x) (hp:PartsN W S la lc ma mc sa sc aa ac ba bc ea ec x) (h:StAt W gs A c L a) (hS:∀ b,S b->b≠gs) (hk:x.kind=4) (hky:x.key=⟨#[]⟩) (hnm:x.name=⟨#[]⟩) {sb:Nat} (hbl:LenB (wrW (ndW L n) x.body) (100*sb) (20*sb)) (CB:∀ (a':Nat) (w2:World),StAt w2 gs A c L a'->Bar W w2 gs->a'+20*sb<=1000000000->Calls Tryz.prog 11 #[.pointer (some ⟨gs,0,none⟩),.slice ba x.body.length bc] w2 (WrPost gs A c L (flatP (wrW (ndW L n) x.body a').1,(wrW (ndW L n) x.body a').2) w2)) {se:Nat} (hol:LenB (otW L n x) (50+100*se) (6+20*se)) (CO:∀ (a':Nat) (w2:World),StAt w2 gs A c L a'->Bar W w2 gs->a'+6+20*se<=1000000000->Calls Tryz.prog 47 #[.pointer (some ⟨gs,0,none⟩),.agg #[.int .i64 x.kind,.string x.text,.int .i64 x.x.kind,.int .i64 x.x.val.kind,.bool x.x.val.bool,.int .i64 x.x.val.int,.string x.x.val.str,.slice la x.x.val.list.length lc,.slice ma x.x.val.map.length mc,.string x.x.name,.slice sa x.x.steps.length sc,.slice aa x.x.args.length ac,.string x.key,.string x.name,.slice ba x.body.length bc,.slice ea x.els.length ec]] w2 (WrPost gs A c L (flatP (otW L n x a').1,(otW L n x a').2) w2)) (ha:a+20*(wtNo x+sb+se)<=1000000000) (hz:100*(wtNo x+sb+se)<=1000000):
  Calls Tryz.prog 26 #[.pointer (some ⟨gs,0,none⟩),.agg #[.int .i64 x.kind,.string x.text,.int .i64 x.x.kind,.int .i64 x.x.val.kind,.bool x.x.val.bool,.int .i64 x.x.val.int,.string x.x.val.str,.slice la x.x.val.list.length lc,.slice ma x.x.val.map.length mc,.string x.x.name,.slice sa x.x.steps.length sc,.slice aa x.x.args.length ac,.string x.key,.string x.name,.slice ba x.body.length bc,.slice ea x.els.length ec]] W (WrPost gs A c L (flatP (ndW L (n+1) x a).1,(ndW L (n+1) x a).2) W):=by
 have hwo:wtNo x=1+x.text.size+x.name.size+x.key.size+wtX 6 x.x:=rfl;have hwp:=wtX_pos (d:=6) x.x;have kws:=size_list x.key;have kwn:=size_list x.name;have hgs:=h.blk.lt;have hba:=Below.new W (.cells (aN x la lc ma mc sa sc aa ac ba bc ea ec) 70);have h0:=Blk.new W 70 (aN x la lc ma mc sa sc aa ac ba bc ea ec);have HS:=h_ (h.keep hba);have HB:=h_ (Bar.of (gc:=gs) hba);have H0:=h_ h0;have HXX:=h_ (hp.x.keep hba);have hpn:=hp.name;obtain ⟨W1,e1W⟩:∃ z,z=W.alloc (.cells (aN x la lc ma mc sa sc aa ac ba bc ea ec) 70):=⟨_,rfl⟩;obtain ⟨n3,e3W⟩:∃ z,z=W.heap.size:=⟨_,rfl⟩;rw [<-e1W] at HS HB H0 HXX;rw [<-e3W] at H0
 have hn3:n3≠gs:=by omega
 have E1:=h_ e1W;have E3:=h_ e3W;have HHS:=h_ hS;clear hba h0 e1W e3W;have gk0:(x.kind==0)=false:=bf_ (by omega);have gk1:(x.kind==1)=false:=bf_ (by omega);have gk2:(x.kind==2)=false:=bf_ (by omega);have gk3:(x.kind==3)=false:=bf_ (by omega)
 have gk4:(x.kind==4)=true:=by rw [hk];rfl
 have gky:x.key.toList=[]:=by rw [hky,ByteArray.toList_eq]
 have gky2:(x.key.toList==[])=true:=by rw [gky];rfl
 have gnm:x.name.toList=[]:=by rw [hnm,ByteArray.toList_eq]
 have gnm2:(x.name.toList==[])=true:=by rw [gnm];rfl
 have hpk:=hp.key;have hl1:=gap_len L a;obtain ⟨⟨v1,a1⟩,e1⟩:∃ z,z=gapW L a:=⟨_,rfl⟩;rw [<-e1] at hl1
 simp only at hl1
 obtain ⟨s1,hs1⟩:∃ z,z=bs v1:=⟨_,rfl⟩
 have z1:s1.size<=2:=by rw [hs1,bs_size];exact hl1.1
 have q1:s1.size=v1.length:=by rw [hs1,bs_size]
 have C1:=h_ (fun (w2:World) (h2:StAt w2 gs A c L a) (h3:Bar W1 w2 gs)=>show Calls Tryz.prog 35 #[.pointer (some ⟨gs,0,none⟩)] w2 (fun e w'=>e=.returned (.string s1)/\StAt w' gs A c L a1/\Bar w2 w' gs) from by have h9:=tgap gs A c L a w2 h2 (by omega);rw [<-e1] at h9;rw [hs1];exact h9);have hl2:=pip_len L 7 6 x.x a1 hr (by omega);obtain ⟨⟨v2,a2⟩,e2⟩:∃ z,z=pipW L 7 x.x a1:=⟨_,rfl⟩;rw [<-e2] at hl2
 simp only at hl2
 obtain ⟨s2,hs2⟩:∃ z,z=bs v2:=⟨_,rfl⟩
 have z2:s2.size<=1000000:=by rw [hs2,bs_size];omega
 have q2:s2.size=v2.length:=by rw [hs2,bs_size]
 have C2:=h_ (fun (w2:World) (h2:StAt w2 gs A c L a1) (h3:Bar W1 w2 gs)=>show Calls Tryz.prog 18 #[.pointer (some ⟨gs,0,none⟩),.agg (aX x.x la lc ma mc sa sc aa ac)] w2 (fun e w'=>e=.returned (.string s2)/\StAt w' gs A c L a2/\Bar w2 w' gs) from by have h9:=wpipe_all (gs:=gs) (A:=A) (c:=c) (L:=L) 7 6 x.x a1 w2 S _ hr (by omega) h2 (HXX.out.bar h3 hS) hS (by omega) (by omega);unfold WrPost at h9;rw [<-e2] at h9;rw [hs2];exact h9);have hl3:=act_len L (([114,97,110,103,101]:LB_)++(v1++(v2))) a2;obtain ⟨⟨v3,a3⟩,e3⟩:∃ z,z=actW L (([114,97,110,103,101]:LB_)++(v1++(v2))) a2:=⟨_,rfl⟩;rw [<-e3] at hl3
 simp only at hl3
 obtain ⟨s3,hs3⟩:∃ z,z=bs (flatP v3):=⟨_,rfl⟩
 have t3:(⟨#[114,97,110,103,101]⟩++s1++s2:ByteArray).data.toList=([114,97,110,103,101]:LB_)++(v1++(v2)):=by rw [hs1,hs2];simp only [ba_app];simp
 have y3:(⟨#[114,97,110,103,101]⟩++s1++s2:ByteArray).size=5+s1.size+s2.size:=by simp only [ByteArray.size_append];rfl
 have x3:(([114,97,110,103,101]:LB_)++(v1++(v2))).length=5+s1.size+s2.size:=by rw [<-t3,<-size_list];exact y3
 have z3:s3.size<=1000000:=by rw [hs3,bs_size];omega
 have nf1:¬ 9223372036854775807 < 5+s1.size:=by omega
 have nf2:¬ 9223372036854775807 < 5+s1.size+s2.size:=by omega
 have C3:=h_ (fun (w2:World) (h2:StAt w2 gs A c L a2) (h3:Bar W1 w2 gs)=>show Calls Tryz.prog 46 #[.pointer (some ⟨gs,0,none⟩),.string (⟨#[114,97,110,103,101]⟩++s1++s2)] w2 (fun e w'=>e=.returned (.string s3)/\StAt w' gs A c L a3/\Bar w2 w' gs) from by have h9:=taction gs A c L a2 (⟨#[114,97,110,103,101]⟩++s1++s2) w2 h2 (by omega) (by omega);unfold WrPost at h9;rw [t3,<-e3] at h9;rw [hs3];exact h9);have hl4:=hbl a3;obtain ⟨⟨v4,a4⟩,e4⟩:∃ z,z=wrW (ndW L n) x.body a3:=⟨_,rfl⟩;rw [<-e4] at hl4
 simp only at hl4
 obtain ⟨s4,hs4⟩:∃ z,z=bs (flatP v4):=⟨_,rfl⟩
 have z4:s4.size<=1000000:=by rw [hs4,bs_size];omega
 have C4:=h_ (fun (w2:World) (h2:StAt w2 gs A c L a3) (h3:Bar W1 w2 gs)=>show Calls Tryz.prog 11 #[.pointer (some ⟨gs,0,none⟩),.slice ba x.body.length bc] w2 (fun e w'=>e=.returned (.string s4)/\StAt w' gs A c L a4/\Bar w2 w' gs) from by have h9:=CB a3 w2 h2 (HB.out.trans h3) (by omega);unfold WrPost at h9;rw [<-e4] at h9;rw [hs4];exact h9);have hl5:=hol a4;obtain ⟨⟨v5,a5⟩,e5⟩:∃ z,z=otW L n x a4:=⟨_,rfl⟩;rw [<-e5] at hl5
 simp only at hl5
 obtain ⟨s5,hs5⟩:∃ z,z=bs (flatP v5):=⟨_,rfl⟩
 have z5:s5.size<=1000000:=by rw [hs5,bs_size];omega
 have C5:=h_ (fun (w2:World) (h2:StAt w2 gs A c L a4) (h3:Bar W1 w2 gs)=>show Calls Tryz.prog 47 #[.pointer (some ⟨gs,0,none⟩),.agg (aN x la lc ma mc sa sc aa ac ba bc ea ec)] w2 (fun e w'=>e=.returned (.string s5)/\StAt w' gs A c L a5/\Bar w2 w' gs) from by have h9:=CO a4 w2 h2 (HB.out.trans h3) (by omega);unfold WrPost at h9;rw [<-e5] at h9;rw [hs5];exact h9)
 have hmid:midW L x a=(v1,a1):=by unfold midW;rw [if_pos hk,if_neg (fun h=>h hky),if_neg (fun h=>h hnm)];exact e1.symm
 have hhd:headW L x a=(([114,97,110,103,101]:LB_)++(v1++(v2)),a2):=by unfold headW;rw [hmid];simp only;rw [<-e2,hk];rw [show kwW 4=[114,97,110,103,101] from rfl]
 have HF:=h_ (show ndW L (n+1) x a=(v3++(v4++v5),a5) from by rw [ndW,if_neg (by omega),if_neg (by omega),if_neg (by omega),if_neg (by omega),hhd];exact blk_eq e3 e4 e5);have HFL:=h_ (show s3++s4++s5=bs (flatP (v3++(v4++v5))) from by rw [hs3,hs4,hs5];exact ba_extA (by simp only [flatP_app,ba_app];simp))
 have nf3:¬ 9223372036854775807 < s3.size+s4.size:=by omega
 have nf4:¬ 9223372036854775807 < s3.size+s4.size+s5.size:=by omega
 clear hpn hp h hS hwo hwp kws kwn hgs hpk q1 q2 t3 y3 x3 e1 hs1 hl1 e2 hs2 hl2 e3 hs3 hl3 e4 hs4 hl4 e5 hs5 hl5 hk ha hz hbl CB hol CO hmid hhd hr HXX hky hnm;have k0:=H0.out.cell;have f0:=H0.out.frozen;have l0:=H0.out.lt;unfold aN aX at *
 go_enter Tryz.func26,Tryz.ntmps26
 go_upto_region 1 with fail;rw [<-E1.out,<-E3.out];clear E1 E3;go_wp2_with fail
 refine (C1.out _ HS.out (Bar.refl W1 gs)).mono ?_
 rintro e w1 ⟨rfl,ht1,hb1⟩;have HT1:=h_ ht1;have HR1:=h_ ((Bar.refl W1 gs).trans hb1);clear ht1 hb1;have H01:=h_ (HR1.out.blk H0.out hn3);clear k0 f0 l0;have k0:=H01.out.cell;have f0:=H01.out.frozen;have l0:=H01.out.lt;go_upto_region 16 with fail
 refine wp_region_held_drew (S:=(fun w'=>∀ i,w'.cell? ⟨n3,i,none⟩=(#[.int .i64 x.kind,.string x.text,.int .i64 x.x.kind,.int .i64 x.x.val.kind,.bool x.x.val.bool,.int .i64 x.x.val.int,.string x.x.val.str,.slice la x.x.val.list.length lc,.slice ma x.x.val.map.length mc,.string x.x.name,.slice sa x.x.steps.length sc,.slice aa x.x.args.length ac,.string x.key,.string x.name,.slice ba x.body.length bc,.slice ea x.els.length ec]:Array Value)[i]?)) (by kernel_rfl) (by exact (Bar.blk (HR1.out.trans (Bar.of ((Below.refl _ _).drew))) H0.out hn3).cell) (fun hHeld=>?_)
 refine mv_ 0 ?_
 refine mv_ 1 ?_
 refine mv_ 2 ?_
 refine mv_ 3 ?_
 refine mv_ 4 ?_
 refine mv_ 8 ?_
 refine mv_ 9 ?_
 refine mv_ 10 ?_
 refine mv_ 13 ?_
 refine mv_ 14 ?_
 refine mr_ 5 (fun K hK=>?_)
 go_simp
 refine (C2.out _ (HT1.out.keep ((Below.refl _ _).drew)) (HR1.out.trans (Bar.of ((Below.refl _ _).drew)))).mono ?_
 rintro e w2 ⟨rfl,ht2,hb2⟩;have HT2:=h_ ht2;have HR2:=h_ ((HR1.out.trans (Bar.of ((Below.refl _ _).drew))).trans hb2);clear ht2 hb2;go_wp2_with fail
 refine hK.out _ _ (by exact (Bar.blk HR2.out H0.out hn3).cell) (fun hHeld=>?_)
 clear hK K
 try simp only [Act.put,pA_,pB_,pC_]
 refine mv_ 6 ?_
 refine mr_ 7 (fun K hK=>?_)
 go_simp
 refine (C3.out _ HT2.out HR2.out).mono ?_
 rintro e w3 ⟨rfl,ht3,hb3⟩;have HT3:=h_ ht3;have HR3:=h_ (HR2.out.trans hb3);clear ht3 hb3;go_wp2_with fail
 refine hK.out _ _ (by exact (Bar.blk HR3.out H0.out hn3).cell) (fun hHeld=>?_)
 clear hK K
 try simp only [Act.put,pA_,pB_,pC_]
 refine mr_ 11 (fun K hK=>?_)
 go_simp
 refine (C4.out _ HT3.out HR3.out).mono ?_
 rintro e w4 ⟨rfl,ht4,hb4⟩;have HT4:=h_ ht4;have HR4:=h_ (HR3.out.trans hb4);clear ht4 hb4;go_wp2_with fail
 refine hK.out _ _ (by exact (Bar.blk HR4.out H0.out hn3).cell) (fun hHeld=>?_)
 clear hK K
 try simp only [Act.put,pA_,pB_,pC_]
 refine mv_ 12 ?_
 refine mr_ 15 (fun K hK=>?_)
 go_simp
 refine (C5.out _ HT4.out HR4.out).mono ?_
 rintro e w5 ⟨rfl,ht5,hb5⟩;have HT5:=h_ ht5;have HR5:=h_ (HR4.out.trans hb5);clear ht5 hb5;go_wp2_with fail
 refine hK.out _ _ (by exact (Bar.blk HR5.out H0.out hn3).cell) (fun hHeld=>?_)
 clear hK K
 try simp only [Act.put,pA_,pB_,pC_]
 refine mv_ 16 ?_
 refine mv_ 17 ?_
 refine wpAnyH_done (by kernel_rfl) ?_ _
 go_wp2_with fail;go_ret;rw [HF.out]
 exact ⟨congrArg (fun s=>Ending.returned (Value.string s)) HFL.out,HT5.out,HB.out.trans HR5.out⟩
end Go.Proofs.YtnblmhfgmehnnaaGreatDoor
