/- Several texts as one. -/
import Derived.Test.YtnblmhfgmehnnaaGreatDoorPeFo
import Derived.Test.YtnblmhfgmehnnaaGreatDoorPeMv
import Derived.Test.YtnblmhfgmehnnaaGreatDoorPeBD
import Derived.Test.YtnblmhfgmehnnaaGreatDoorPeAC
import Derived.Test.YtnblmhfgmehnnaaGreatDoorPeAV
import Derived.Test.YtnblmhfgmehnnaaGreatDoorPeAW
set_option maxRecDepth 100000
set_option maxHeartbeats 16000000
namespace Go.Proofs.YtnblmhfgmehnnaaGreatDoor
open Go.RowKit Go.Lib
attribute [local go_sem ↓] Go.wp_at_zero Go.wp_at_succ
theorem ot_end {gs:Nat} {A:OA_} {c:Nat} {L:LB_} {n:Nat} {x:Nd} {a:Nat} {W:World} {S:Nat->Prop} {la:OA_} {lc:Nat} {ma:OA_} {mc:Nat} {sa:OA_} {sc:Nat} {aa:OA_} {ac:Nat} {ba:OA_} {bc:Nat} {ea:OA_} {ec:Nat} (hp:PartsN W S la lc ma mc sa sc aa ac ba bc ea ec x) (h:StAt W gs A c L a) (hS:∀ b,S b->b≠gs) (he:x.els=[]) (ha:a<=1000000000):
  Calls Tryz.prog 47 #[.pointer (some ⟨gs,0,none⟩),.agg #[.int .i64 x.kind,.string x.text,.int .i64 x.x.kind,.int .i64 x.x.val.kind,.bool x.x.val.bool,.int .i64 x.x.val.int,.string x.x.val.str,.slice la x.x.val.list.length lc,.slice ma x.x.val.map.length mc,.string x.x.name,.slice sa x.x.steps.length sc,.slice aa x.x.args.length ac,.string x.key,.string x.name,.slice ba x.body.length bc,.slice ea x.els.length ec]] W (WrPost gs A c L (flatP (otW L (n+1) x a).1,(otW L (n+1) x a).2) W):=by
 have hwo:wtNo x=1+x.text.size+x.name.size+x.key.size+wtX 6 x.x:=rfl;have hwp:=wtX_pos (d:=6) x.x;have kws:=size_list x.key;have kwn:=size_list x.name;have hgs:=h.blk.lt;have hba:=Below.new W (.cells (aN x la lc ma mc sa sc aa ac ba bc ea ec) 70);have h0:=Blk.new W 70 (aN x la lc ma mc sa sc aa ac ba bc ea ec);have HS:=h_ (h.keep hba);have HB:=h_ (Bar.of (gc:=gs) hba);have H0:=h_ h0;have HXX:=h_ (hp.x.keep hba);have hpn:=hp.name;obtain ⟨W1,e1W⟩:∃ z,z=W.alloc (.cells (aN x la lc ma mc sa sc aa ac ba bc ea ec) 70):=⟨_,rfl⟩;obtain ⟨n3,e3W⟩:∃ z,z=W.heap.size:=⟨_,rfl⟩;rw [<-e1W] at HS HB H0 HXX;rw [<-e3W] at H0
 have hn3:n3≠gs:=by omega
 have E1:=h_ e1W;have E3:=h_ e3W;have HHS:=h_ hS;clear hba h0 e1W e3W;have hl1:=act_len L (([101,110,100]:LB_)) a;obtain ⟨⟨v1,a1⟩,e1⟩:∃ z,z=actW L (([101,110,100]:LB_)) a:=⟨_,rfl⟩;rw [<-e1] at hl1
 simp only at hl1
 obtain ⟨s1,hs1⟩:∃ z,z=bs (flatP v1):=⟨_,rfl⟩
 have t1:(⟨#[101,110,100]⟩:ByteArray).data.toList=([101,110,100]:LB_):=by rfl
 have y1:(⟨#[101,110,100]⟩:ByteArray).size=3:=by rfl
 have x1:(([101,110,100]:LB_)).length=3:=by rw [<-t1,<-size_list];exact y1
 have z1:s1.size<=1000000:=by rw [hs1,bs_size];omega
 have C1:=h_ (fun (w2:World) (h2:StAt w2 gs A c L a) (h3:Bar W1 w2 gs)=>show Calls Tryz.prog 46 #[.pointer (some ⟨gs,0,none⟩),.string (⟨#[101,110,100]⟩)] w2 (fun e w'=>e=.returned (.string s1)/\StAt w' gs A c L a1/\Bar w2 w' gs) from by have h9:=taction gs A c L a (⟨#[101,110,100]⟩) w2 h2 (by omega) (by omega);unfold WrPost at h9;rw [t1,<-e1] at h9;rw [hs1];exact h9);have HF:=h_ (show otW L (n+1) x a=(v1,a1) from by rw [otW,he];exact e1.symm);have HFL:=h_ (show s1=bs (flatP (v1)) from by exact hs1)
 have g0:((x.els.length:Int)==0)=true:=by rw [he];rfl
 clear hpn hp h hS hwo hwp kws kwn hgs t1 y1 x1 e1 hs1 hl1 he ha;have k0:=H0.out.cell;have f0:=H0.out.frozen;have l0:=H0.out.lt;unfold aN at *
 go_enter Tryz.func47,Tryz.ntmps47
 go_upto_region 1 with fail;rw [<-E1.out,<-E3.out];clear E1 E3;go_wp2_with fail
 refine (C1.out _ HS.out (Bar.refl W1 gs)).mono ?_
 rintro e w1 ⟨rfl,ht1,hb1⟩;have HT1:=h_ ht1;have HR1:=h_ ((Bar.refl W1 gs).trans hb1);clear ht1 hb1;have H01:=h_ (HR1.out.blk H0.out hn3);clear k0 f0 l0;have k0:=H01.out.cell;have f0:=H01.out.frozen;have l0:=H01.out.lt;go_wp2_with fail;go_ret;rw [HF.out]
 exact ⟨congrArg (fun s=>Ending.returned (Value.string s)) HFL.out,HT1.out,HB.out.trans HR1.out⟩
theorem ot_els1 {gs:Nat} {A:OA_} {c:Nat} {L:LB_} {n:Nat} {x:Nd} {a:Nat} {W:World} {S:Nat->Prop} {la:OA_} {lc:Nat} {ma:OA_} {mc:Nat} {sa:OA_} {sc:Nat} {aa:OA_} {ac:Nat} {ba:OA_} {bc:Nat} {ea:OA_} {ec:Nat} (hp:PartsN W S la lc ma mc sa sc aa ac ba bc ea ec x) (h:StAt W gs A c L a) (hS:∀ b,S b->b≠gs) (he:x.els≠[]) (hk:x.kind≠2) {se:Nat} (hel:LenB (wrW (ndW L n) x.els) (100*se) (20*se)) (CE:∀ (a':Nat) (w2:World),StAt w2 gs A c L a'->Bar W w2 gs->a'+20*se<=1000000000->Calls Tryz.prog 11 #[.pointer (some ⟨gs,0,none⟩),.slice ea x.els.length ec] w2 (WrPost gs A c L (flatP (wrW (ndW L n) x.els a').1,(wrW (ndW L n) x.els a').2) w2)) (hval:otW L (n+1) x a=blkW L (elseW,a) (wrW (ndW L n) x.els) (actW L endW)) (ha:a+6+20*se<=1000000000) (hz:100*se+50<=1000000):
  Calls Tryz.prog 47 #[.pointer (some ⟨gs,0,none⟩),.agg #[.int .i64 x.kind,.string x.text,.int .i64 x.x.kind,.int .i64 x.x.val.kind,.bool x.x.val.bool,.int .i64 x.x.val.int,.string x.x.val.str,.slice la x.x.val.list.length lc,.slice ma x.x.val.map.length mc,.string x.x.name,.slice sa x.x.steps.length sc,.slice aa x.x.args.length ac,.string x.key,.string x.name,.slice ba x.body.length bc,.slice ea x.els.length ec]] W (WrPost gs A c L (flatP (otW L (n+1) x a).1,(otW L (n+1) x a).2) W):=by
 have hwo:wtNo x=1+x.text.size+x.name.size+x.key.size+wtX 6 x.x:=rfl;have hwp:=wtX_pos (d:=6) x.x;have kws:=size_list x.key;have kwn:=size_list x.name;have hgs:=h.blk.lt;have hba:=Below.new W (.cells (aN x la lc ma mc sa sc aa ac ba bc ea ec) 70);have h0:=Blk.new W 70 (aN x la lc ma mc sa sc aa ac ba bc ea ec);have HS:=h_ (h.keep hba);have HB:=h_ (Bar.of (gc:=gs) hba);have H0:=h_ h0;have HXX:=h_ (hp.x.keep hba);have hpn:=hp.name;obtain ⟨W1,e1W⟩:∃ z,z=W.alloc (.cells (aN x la lc ma mc sa sc aa ac ba bc ea ec) 70):=⟨_,rfl⟩;obtain ⟨n3,e3W⟩:∃ z,z=W.heap.size:=⟨_,rfl⟩;rw [<-e1W] at HS HB H0 HXX;rw [<-e3W] at H0
 have hn3:n3≠gs:=by omega
 have E1:=h_ e1W;have E3:=h_ e3W;have HHS:=h_ hS;clear hba h0 e1W e3W;have gk2:(x.kind==2)=false:=bf_ hk;have hpos:0 < x.els.length:=List.length_pos_iff.2 he;have g0:((x.els.length:Int)==0)=false:=bf_ (by omega);have hl1:=act_len L (([101,108,115,101]:LB_)) a;obtain ⟨⟨v1,a1⟩,e1⟩:∃ z,z=actW L (([101,108,115,101]:LB_)) a:=⟨_,rfl⟩;rw [<-e1] at hl1
 simp only at hl1
 obtain ⟨s1,hs1⟩:∃ z,z=bs (flatP v1):=⟨_,rfl⟩
 have t1:(⟨#[101,108,115,101]⟩:ByteArray).data.toList=([101,108,115,101]:LB_):=by rfl
 have y1:(⟨#[101,108,115,101]⟩:ByteArray).size=4:=by rfl
 have x1:(([101,108,115,101]:LB_)).length=4:=by rw [<-t1,<-size_list];exact y1
 have z1:s1.size<=1000000:=by rw [hs1,bs_size];omega
 have C1:=h_ (fun (w2:World) (h2:StAt w2 gs A c L a) (h3:Bar W1 w2 gs)=>show Calls Tryz.prog 46 #[.pointer (some ⟨gs,0,none⟩),.string (⟨#[101,108,115,101]⟩)] w2 (fun e w'=>e=.returned (.string s1)/\StAt w' gs A c L a1/\Bar w2 w' gs) from by have h9:=taction gs A c L a (⟨#[101,108,115,101]⟩) w2 h2 (by omega) (by omega);unfold WrPost at h9;rw [t1,<-e1] at h9;rw [hs1];exact h9);have hl2:=hel a1;obtain ⟨⟨v2,a2⟩,e2⟩:∃ z,z=wrW (ndW L n) x.els a1:=⟨_,rfl⟩;rw [<-e2] at hl2
 simp only at hl2
 obtain ⟨s2,hs2⟩:∃ z,z=bs (flatP v2):=⟨_,rfl⟩
 have z2:s2.size<=1000000:=by rw [hs2,bs_size];omega
 have C2:=h_ (fun (w2:World) (h2:StAt w2 gs A c L a1) (h3:Bar W1 w2 gs)=>show Calls Tryz.prog 11 #[.pointer (some ⟨gs,0,none⟩),.slice ea x.els.length ec] w2 (fun e w'=>e=.returned (.string s2)/\StAt w' gs A c L a2/\Bar w2 w' gs) from by have h9:=CE a1 w2 h2 (HB.out.trans h3) (by omega);unfold WrPost at h9;rw [<-e2] at h9;rw [hs2];exact h9);have hl3:=act_len L (([101,110,100]:LB_)) a2;obtain ⟨⟨v3,a3⟩,e3⟩:∃ z,z=actW L (([101,110,100]:LB_)) a2:=⟨_,rfl⟩;rw [<-e3] at hl3
 simp only at hl3
 obtain ⟨s3,hs3⟩:∃ z,z=bs (flatP v3):=⟨_,rfl⟩
 have t3:(⟨#[101,110,100]⟩:ByteArray).data.toList=([101,110,100]:LB_):=by rfl
 have y3:(⟨#[101,110,100]⟩:ByteArray).size=3:=by rfl
 have x3:(([101,110,100]:LB_)).length=3:=by rw [<-t3,<-size_list];exact y3
 have z3:s3.size<=1000000:=by rw [hs3,bs_size];omega
 have C3:=h_ (fun (w2:World) (h2:StAt w2 gs A c L a2) (h3:Bar W1 w2 gs)=>show Calls Tryz.prog 46 #[.pointer (some ⟨gs,0,none⟩),.string (⟨#[101,110,100]⟩)] w2 (fun e w'=>e=.returned (.string s3)/\StAt w' gs A c L a3/\Bar w2 w' gs) from by have h9:=taction gs A c L a2 (⟨#[101,110,100]⟩) w2 h2 (by omega) (by omega);unfold WrPost at h9;rw [t3,<-e3] at h9;rw [hs3];exact h9);have HF:=h_ (show otW L (n+1) x a=(v1++(v2++v3),a3) from by rw [hval];exact blk_eq e1 e2 e3);have HFL:=h_ (show s1++s2++s3=bs (flatP (v1++(v2++v3))) from by rw [hs1,hs2,hs3];exact ba_extA (by simp only [flatP_app,ba_app];simp))
 have nf1:¬ 9223372036854775807 < s1.size+s2.size:=by omega
 have nf2:¬ 9223372036854775807 < s1.size+s2.size+s3.size:=by omega
 clear hpn hp h hS hwo hwp kws kwn hgs t1 y1 x1 t3 y3 x3 e1 hs1 hl1 e2 hs2 hl2 e3 hs3 hl3 he hk hval ha hz hel CE hpos;have k0:=H0.out.cell;have f0:=H0.out.frozen;have l0:=H0.out.lt;unfold aN at *
 go_enter Tryz.func47,Tryz.ntmps47
 go_upto_region 1 with fail;rw [<-E1.out,<-E3.out];clear E1 E3;go_upto_region 6 with fail
 refine wp_region_held_drew (S:=(fun w'=>∀ i,w'.cell? ⟨n3,i,none⟩=(#[.int .i64 x.kind,.string x.text,.int .i64 x.x.kind,.int .i64 x.x.val.kind,.bool x.x.val.bool,.int .i64 x.x.val.int,.string x.x.val.str,.slice la x.x.val.list.length lc,.slice ma x.x.val.map.length mc,.string x.x.name,.slice sa x.x.steps.length sc,.slice aa x.x.args.length ac,.string x.key,.string x.name,.slice ba x.body.length bc,.slice ea x.els.length ec]:Array Value)[i]?)) (by kernel_rfl) (by exact (Bar.blk ((Bar.refl W1 gs).trans (Bar.of ((Below.refl _ _).drew))) H0.out hn3).cell) (fun hHeld=>?_)
 refine mv_ 0 ?_
 refine mv_ 2 ?_
 refine mv_ 3 ?_
 refine mv_ 4 ?_
 refine mv_ 7 ?_
 refine mr_ 1 (fun K hK=>?_)
 go_simp
 refine (C1.out _ (HS.out.keep ((Below.refl _ _).drew)) ((Bar.refl W1 gs).trans (Bar.of ((Below.refl _ _).drew)))).mono ?_
 rintro e w1 ⟨rfl,ht1,hb1⟩;have HT1:=h_ ht1;have HR1:=h_ (((Bar.refl W1 gs).trans (Bar.of ((Below.refl _ _).drew))).trans hb1);clear ht1 hb1;go_wp2_with fail
 refine hK.out _ _ (by exact (Bar.blk HR1.out H0.out hn3).cell) (fun hHeld=>?_)
 clear hK K
 try simp only [Act.put,pA_,pB_,pC_]
 refine mr_ 5 (fun K hK=>?_)
 go_simp
 refine (C2.out _ HT1.out HR1.out).mono ?_
 rintro e w2 ⟨rfl,ht2,hb2⟩;have HT2:=h_ ht2;have HR2:=h_ (HR1.out.trans hb2);clear ht2 hb2;go_wp2_with fail
 refine hK.out _ _ (by exact (Bar.blk HR2.out H0.out hn3).cell) (fun hHeld=>?_)
 clear hK K
 try simp only [Act.put,pA_,pB_,pC_]
 refine mv_ 6 ?_
 refine mr_ 8 (fun K hK=>?_)
 go_simp
 refine (C3.out _ HT2.out HR2.out).mono ?_
 rintro e w3 ⟨rfl,ht3,hb3⟩;have HT3:=h_ ht3;have HR3:=h_ (HR2.out.trans hb3);clear ht3 hb3;go_wp2_with fail
 refine hK.out _ _ (by exact (Bar.blk HR3.out H0.out hn3).cell) (fun hHeld=>?_)
 clear hK K
 try simp only [Act.put,pA_,pB_,pC_]
 refine mv_ 9 ?_
 refine mv_ 10 ?_
 refine wpAnyH_done (by kernel_rfl) ?_ _
 go_wp2_with fail;go_ret;rw [HF.out]
 exact ⟨congrArg (fun s=>Ending.returned (Value.string s)) HFL.out,HT3.out,HB.out.trans HR3.out⟩
theorem ot_els2 {gs:Nat} {A:OA_} {c:Nat} {L:LB_} {n:Nat} {x:Nd} {a:Nat} {W:World} {S:Nat->Prop} {la:OA_} {lc:Nat} {ma:OA_} {mc:Nat} {sa:OA_} {sc:Nat} {aa:OA_} {ac:Nat} {ba:OA_} {bc:Nat} {ea:OA_} {ec:Nat} (hp:PartsN W S la lc ma mc sa sc aa ac ba bc ea ec x) (h:StAt W gs A c L a) (hS:∀ b,S b->b≠gs) (he:x.els≠[]) (hk:x.kind=2) (hl:x.els.length≠1) {se:Nat} (hel:LenB (wrW (ndW L n) x.els) (100*se) (20*se)) (CE:∀ (a':Nat) (w2:World),StAt w2 gs A c L a'->Bar W w2 gs->a'+20*se<=1000000000->Calls Tryz.prog 11 #[.pointer (some ⟨gs,0,none⟩),.slice ea x.els.length ec] w2 (WrPost gs A c L (flatP (wrW (ndW L n) x.els a').1,(wrW (ndW L n) x.els a').2) w2)) (hval:otW L (n+1) x a=blkW L (elseW,a) (wrW (ndW L n) x.els) (actW L endW)) (ha:a+6+20*se<=1000000000) (hz:100*se+50<=1000000):
  Calls Tryz.prog 47 #[.pointer (some ⟨gs,0,none⟩),.agg #[.int .i64 x.kind,.string x.text,.int .i64 x.x.kind,.int .i64 x.x.val.kind,.bool x.x.val.bool,.int .i64 x.x.val.int,.string x.x.val.str,.slice la x.x.val.list.length lc,.slice ma x.x.val.map.length mc,.string x.x.name,.slice sa x.x.steps.length sc,.slice aa x.x.args.length ac,.string x.key,.string x.name,.slice ba x.body.length bc,.slice ea x.els.length ec]] W (WrPost gs A c L (flatP (otW L (n+1) x a).1,(otW L (n+1) x a).2) W):=by
 have hwo:wtNo x=1+x.text.size+x.name.size+x.key.size+wtX 6 x.x:=rfl;have hwp:=wtX_pos (d:=6) x.x;have kws:=size_list x.key;have kwn:=size_list x.name;have hgs:=h.blk.lt;have hba:=Below.new W (.cells (aN x la lc ma mc sa sc aa ac ba bc ea ec) 70);have h0:=Blk.new W 70 (aN x la lc ma mc sa sc aa ac ba bc ea ec);have HS:=h_ (h.keep hba);have HB:=h_ (Bar.of (gc:=gs) hba);have H0:=h_ h0;have HXX:=h_ (hp.x.keep hba);have hpn:=hp.name;obtain ⟨W1,e1W⟩:∃ z,z=W.alloc (.cells (aN x la lc ma mc sa sc aa ac ba bc ea ec) 70):=⟨_,rfl⟩;obtain ⟨n3,e3W⟩:∃ z,z=W.heap.size:=⟨_,rfl⟩;rw [<-e1W] at HS HB H0 HXX;rw [<-e3W] at H0
 have hn3:n3≠gs:=by omega
 have E1:=h_ e1W;have E3:=h_ e3W;have HHS:=h_ hS;clear hba h0 e1W e3W
 have gk2:(x.kind==2)=true:=by rw [hk];rfl
 have gl:((x.els.length:Int)==1)=false:=bf_ (by omega);have hpos:0 < x.els.length:=List.length_pos_iff.2 he;have g0:((x.els.length:Int)==0)=false:=bf_ (by omega);have hl1:=act_len L (([101,108,115,101]:LB_)) a;obtain ⟨⟨v1,a1⟩,e1⟩:∃ z,z=actW L (([101,108,115,101]:LB_)) a:=⟨_,rfl⟩;rw [<-e1] at hl1
 simp only at hl1
 obtain ⟨s1,hs1⟩:∃ z,z=bs (flatP v1):=⟨_,rfl⟩
 have t1:(⟨#[101,108,115,101]⟩:ByteArray).data.toList=([101,108,115,101]:LB_):=by rfl
 have y1:(⟨#[101,108,115,101]⟩:ByteArray).size=4:=by rfl
 have x1:(([101,108,115,101]:LB_)).length=4:=by rw [<-t1,<-size_list];exact y1
 have z1:s1.size<=1000000:=by rw [hs1,bs_size];omega
 have C1:=h_ (fun (w2:World) (h2:StAt w2 gs A c L a) (h3:Bar W1 w2 gs)=>show Calls Tryz.prog 46 #[.pointer (some ⟨gs,0,none⟩),.string (⟨#[101,108,115,101]⟩)] w2 (fun e w'=>e=.returned (.string s1)/\StAt w' gs A c L a1/\Bar w2 w' gs) from by have h9:=taction gs A c L a (⟨#[101,108,115,101]⟩) w2 h2 (by omega) (by omega);unfold WrPost at h9;rw [t1,<-e1] at h9;rw [hs1];exact h9);have hl2:=hel a1;obtain ⟨⟨v2,a2⟩,e2⟩:∃ z,z=wrW (ndW L n) x.els a1:=⟨_,rfl⟩;rw [<-e2] at hl2
 simp only at hl2
 obtain ⟨s2,hs2⟩:∃ z,z=bs (flatP v2):=⟨_,rfl⟩
 have z2:s2.size<=1000000:=by rw [hs2,bs_size];omega
 have C2:=h_ (fun (w2:World) (h2:StAt w2 gs A c L a1) (h3:Bar W1 w2 gs)=>show Calls Tryz.prog 11 #[.pointer (some ⟨gs,0,none⟩),.slice ea x.els.length ec] w2 (fun e w'=>e=.returned (.string s2)/\StAt w' gs A c L a2/\Bar w2 w' gs) from by have h9:=CE a1 w2 h2 (HB.out.trans h3) (by omega);unfold WrPost at h9;rw [<-e2] at h9;rw [hs2];exact h9);have hl3:=act_len L (([101,110,100]:LB_)) a2;obtain ⟨⟨v3,a3⟩,e3⟩:∃ z,z=actW L (([101,110,100]:LB_)) a2:=⟨_,rfl⟩;rw [<-e3] at hl3
 simp only at hl3
 obtain ⟨s3,hs3⟩:∃ z,z=bs (flatP v3):=⟨_,rfl⟩
 have t3:(⟨#[101,110,100]⟩:ByteArray).data.toList=([101,110,100]:LB_):=by rfl
 have y3:(⟨#[101,110,100]⟩:ByteArray).size=3:=by rfl
 have x3:(([101,110,100]:LB_)).length=3:=by rw [<-t3,<-size_list];exact y3
 have z3:s3.size<=1000000:=by rw [hs3,bs_size];omega
 have C3:=h_ (fun (w2:World) (h2:StAt w2 gs A c L a2) (h3:Bar W1 w2 gs)=>show Calls Tryz.prog 46 #[.pointer (some ⟨gs,0,none⟩),.string (⟨#[101,110,100]⟩)] w2 (fun e w'=>e=.returned (.string s3)/\StAt w' gs A c L a3/\Bar w2 w' gs) from by have h9:=taction gs A c L a2 (⟨#[101,110,100]⟩) w2 h2 (by omega) (by omega);unfold WrPost at h9;rw [t3,<-e3] at h9;rw [hs3];exact h9);have HF:=h_ (show otW L (n+1) x a=(v1++(v2++v3),a3) from by rw [hval];exact blk_eq e1 e2 e3);have HFL:=h_ (show s1++s2++s3=bs (flatP (v1++(v2++v3))) from by rw [hs1,hs2,hs3];exact ba_extA (by simp only [flatP_app,ba_app];simp))
 have nf1:¬ 9223372036854775807 < s1.size+s2.size:=by omega
 have nf2:¬ 9223372036854775807 < s1.size+s2.size+s3.size:=by omega
 clear hpn hp h hS hwo hwp kws kwn hgs t1 y1 x1 t3 y3 x3 e1 hs1 hl1 e2 hs2 hl2 e3 hs3 hl3 he hk hval ha hz hel CE hl hpos;have k0:=H0.out.cell;have f0:=H0.out.frozen;have l0:=H0.out.lt;unfold aN at *
 go_enter Tryz.func47,Tryz.ntmps47
 go_upto_region 1 with fail;rw [<-E1.out,<-E3.out];clear E1 E3;go_upto_region 6 with fail
 refine wp_region_held_drew (S:=(fun w'=>∀ i,w'.cell? ⟨n3,i,none⟩=(#[.int .i64 x.kind,.string x.text,.int .i64 x.x.kind,.int .i64 x.x.val.kind,.bool x.x.val.bool,.int .i64 x.x.val.int,.string x.x.val.str,.slice la x.x.val.list.length lc,.slice ma x.x.val.map.length mc,.string x.x.name,.slice sa x.x.steps.length sc,.slice aa x.x.args.length ac,.string x.key,.string x.name,.slice ba x.body.length bc,.slice ea x.els.length ec]:Array Value)[i]?)) (by kernel_rfl) (by exact (Bar.blk ((Bar.refl W1 gs).trans (Bar.of ((Below.refl _ _).drew))) H0.out hn3).cell) (fun hHeld=>?_)
 refine mv_ 0 ?_
 refine mv_ 2 ?_
 refine mv_ 3 ?_
 refine mv_ 4 ?_
 refine mv_ 7 ?_
 refine mr_ 1 (fun K hK=>?_)
 go_simp
 refine (C1.out _ (HS.out.keep ((Below.refl _ _).drew)) ((Bar.refl W1 gs).trans (Bar.of ((Below.refl _ _).drew)))).mono ?_
 rintro e w1 ⟨rfl,ht1,hb1⟩;have HT1:=h_ ht1;have HR1:=h_ (((Bar.refl W1 gs).trans (Bar.of ((Below.refl _ _).drew))).trans hb1);clear ht1 hb1;go_wp2_with fail
 refine hK.out _ _ (by exact (Bar.blk HR1.out H0.out hn3).cell) (fun hHeld=>?_)
 clear hK K
 try simp only [Act.put,pA_,pB_,pC_]
 refine mr_ 5 (fun K hK=>?_)
 go_simp
 refine (C2.out _ HT1.out HR1.out).mono ?_
 rintro e w2 ⟨rfl,ht2,hb2⟩;have HT2:=h_ ht2;have HR2:=h_ (HR1.out.trans hb2);clear ht2 hb2;go_wp2_with fail
 refine hK.out _ _ (by exact (Bar.blk HR2.out H0.out hn3).cell) (fun hHeld=>?_)
 clear hK K
 try simp only [Act.put,pA_,pB_,pC_]
 refine mv_ 6 ?_
 refine mr_ 8 (fun K hK=>?_)
 go_simp
 refine (C3.out _ HT2.out HR2.out).mono ?_
 rintro e w3 ⟨rfl,ht3,hb3⟩;have HT3:=h_ ht3;have HR3:=h_ (HR2.out.trans hb3);clear ht3 hb3;go_wp2_with fail
 refine hK.out _ _ (by exact (Bar.blk HR3.out H0.out hn3).cell) (fun hHeld=>?_)
 clear hK K
 try simp only [Act.put,pA_,pB_,pC_]
 refine mv_ 9 ?_
 refine mv_ 10 ?_
 refine wpAnyH_done (by kernel_rfl) ?_ _
 go_wp2_with fail;go_ret;rw [HF.out]
 exact ⟨congrArg (fun s=>Ending.returned (Value.string s)) HFL.out,HT3.out,HB.out.trans HR3.out⟩
theorem ot_els3 {gs:Nat} {A:OA_} {c:Nat} {L:LB_} {n:Nat} {x:Nd} {a:Nat} {W:World} {S:Nat->Prop} {la:OA_} {lc:Nat} {ma:OA_} {mc:Nat} {sa:OA_} {sc:Nat} {aa:OA_} {ac:Nat} {ba:OA_} {bc:Nat} {b bo:Nat} {ec:Nat} (hp:PartsN W S la lc ma mc sa sc aa ac ba bc (some ⟨b,bo,none⟩) ec x) (h:StAt W gs A c L a) (hS:∀ b,S b->b≠gs) (he:x.els≠[]) {y:Nd} {la2:OA_} {lc2:Nat} {ma2:OA_} {mc2:Nat} {sa2:OA_} {sc2:Nat} {aa2:OA_} {ac2:Nat} {ba2:OA_} {bc2:Nat} {ea2:OA_} {ec2:Nat} (hk:x.kind=2) (hl:x.els.length=1) (hyk:y.kind≠2) (hSb:S b) (hcy:cellsAt W b bo [.int .i64 y.kind,.string y.text,.int .i64 y.x.kind,.int .i64 y.x.val.kind,.bool y.x.val.bool,.int .i64 y.x.val.int,.string y.x.val.str,.slice la2 y.x.val.list.length lc2,.slice ma2 y.x.val.map.length mc2,.string y.x.name,.slice sa2 y.x.steps.length sc2,.slice aa2 y.x.args.length ac2,.string y.key,.string y.name,.slice ba2 y.body.length bc2,.slice ea2 y.els.length ec2]) {se:Nat} (hel:LenB (wrW (ndW L n) x.els) (100*se) (20*se)) (CE:∀ (a':Nat) (w2:World),StAt w2 gs A c L a'->Bar W w2 gs->a'+20*se<=1000000000->Calls Tryz.prog 11 #[.pointer (some ⟨gs,0,none⟩),.slice (some ⟨b,bo,none⟩) x.els.length ec] w2 (WrPost gs A c L (flatP (wrW (ndW L n) x.els a').1,(wrW (ndW L n) x.els a').2) w2)) (hval:otW L (n+1) x a=blkW L (elseW,a) (wrW (ndW L n) x.els) (actW L endW)) (ha:a+6+20*se<=1000000000) (hz:100*se+50<=1000000):
  Calls Tryz.prog 47 #[.pointer (some ⟨gs,0,none⟩),.agg #[.int .i64 x.kind,.string x.text,.int .i64 x.x.kind,.int .i64 x.x.val.kind,.bool x.x.val.bool,.int .i64 x.x.val.int,.string x.x.val.str,.slice la x.x.val.list.length lc,.slice ma x.x.val.map.length mc,.string x.x.name,.slice sa x.x.steps.length sc,.slice aa x.x.args.length ac,.string x.key,.string x.name,.slice ba x.body.length bc,.slice (some ⟨b,bo,none⟩) x.els.length ec]] W (WrPost gs A c L (flatP (otW L (n+1) x a).1,(otW L (n+1) x a).2) W):=by
 have hwo:wtNo x=1+x.text.size+x.name.size+x.key.size+wtX 6 x.x:=rfl;have hwp:=wtX_pos (d:=6) x.x;have kws:=size_list x.key;have kwn:=size_list x.name;have hgs:=h.blk.lt;have hba:=Below.new W (.cells #[.int .i64 x.kind,.string x.text,.int .i64 x.x.kind,.int .i64 x.x.val.kind,.bool x.x.val.bool,.int .i64 x.x.val.int,.string x.x.val.str,.slice la x.x.val.list.length lc,.slice ma x.x.val.map.length mc,.string x.x.name,.slice sa x.x.steps.length sc,.slice aa x.x.args.length ac,.string x.key,.string x.name,.slice ba x.body.length bc,.slice (some ⟨b,bo,none⟩) x.els.length ec] 70);have h0:=Blk.new W 70 #[.int .i64 x.kind,.string x.text,.int .i64 x.x.kind,.int .i64 x.x.val.kind,.bool x.x.val.bool,.int .i64 x.x.val.int,.string x.x.val.str,.slice la x.x.val.list.length lc,.slice ma x.x.val.map.length mc,.string x.x.name,.slice sa x.x.steps.length sc,.slice aa x.x.args.length ac,.string x.key,.string x.name,.slice ba x.body.length bc,.slice (some ⟨b,bo,none⟩) x.els.length ec];have HS:=h_ (h.keep hba);have HB:=h_ (Bar.of (gc:=gs) hba);have H0:=h_ h0;have HXX:=h_ (hp.x.keep hba);have hpn:=hp.name;obtain ⟨W1,e1W⟩:∃ z,z=W.alloc (.cells #[.int .i64 x.kind,.string x.text,.int .i64 x.x.kind,.int .i64 x.x.val.kind,.bool x.x.val.bool,.int .i64 x.x.val.int,.string x.x.val.str,.slice la x.x.val.list.length lc,.slice ma x.x.val.map.length mc,.string x.x.name,.slice sa x.x.steps.length sc,.slice aa x.x.args.length ac,.string x.key,.string x.name,.slice ba x.body.length bc,.slice (some ⟨b,bo,none⟩) x.els.length ec] 70):=⟨_,rfl⟩;obtain ⟨n3,e3W⟩:∃ z,z=W.heap.size:=⟨_,rfl⟩;rw [<-e1W] at HS HB H0 HXX;rw [<-e3W] at H0
 have hn3:n3≠gs:=by omega
 have E1:=h_ e1W;have E3:=h_ e3W;have HHS:=h_ hS;clear hba h0 e1W e3W
 have gk2:(x.kind==2)=true:=by rw [hk];rfl
 have gl:((x.els.length:Int)==1)=true:=by rw [hl];rfl
 have gy:(y.kind==2)=false:=bf_ hyk;have hpos:0 < x.els.length:=List.length_pos_iff.2 he;have g0:((x.els.length:Int)==0)=false:=bf_ (by omega);have hl1:=act_len L (([101,108,115,101]:LB_)) a;obtain ⟨⟨v1,a1⟩,e1⟩:∃ z,z=actW L (([101,108,115,101]:LB_)) a:=⟨_,rfl⟩;rw [<-e1] at hl1
 simp only at hl1
 obtain ⟨s1,hs1⟩:∃ z,z=bs (flatP v1):=⟨_,rfl⟩
 have t1:(⟨#[101,108,115,101]⟩:ByteArray).data.toList=([101,108,115,101]:LB_):=by rfl
 have y1:(⟨#[101,108,115,101]⟩:ByteArray).size=4:=by rfl
 have x1:(([101,108,115,101]:LB_)).length=4:=by rw [<-t1,<-size_list];exact y1
 have z1:s1.size<=1000000:=by rw [hs1,bs_size];omega
 have C1:=h_ (fun (w2:World) (h2:StAt w2 gs A c L a) (h3:Bar W1 w2 gs)=>show Calls Tryz.prog 46 #[.pointer (some ⟨gs,0,none⟩),.string (⟨#[101,108,115,101]⟩)] w2 (fun e w'=>e=.returned (.string s1)/\StAt w' gs A c L a1/\Bar w2 w' gs) from by have h9:=taction gs A c L a (⟨#[101,108,115,101]⟩) w2 h2 (by omega) (by omega);unfold WrPost at h9;rw [t1,<-e1] at h9;rw [hs1];exact h9);have hl2:=hel a1;obtain ⟨⟨v2,a2⟩,e2⟩:∃ z,z=wrW (ndW L n) x.els a1:=⟨_,rfl⟩;rw [<-e2] at hl2
 simp only at hl2
 obtain ⟨s2,hs2⟩:∃ z,z=bs (flatP v2):=⟨_,rfl⟩
 have z2:s2.size<=1000000:=by rw [hs2,bs_size];omega
 have C2:=h_ (fun (w2:World) (h2:StAt w2 gs A c L a1) (h3:Bar W1 w2 gs)=>show Calls Tryz.prog 11 #[.pointer (some ⟨gs,0,none⟩),.slice (some ⟨b,bo,none⟩) x.els.length ec] w2 (fun e w'=>e=.returned (.string s2)/\StAt w' gs A c L a2/\Bar w2 w' gs) from by have h9:=CE a1 w2 h2 (HB.out.trans h3) (by omega);unfold WrPost at h9;rw [<-e2] at h9;rw [hs2];exact h9);have hl3:=act_len L (([101,110,100]:LB_)) a2;obtain ⟨⟨v3,a3⟩,e3⟩:∃ z,z=actW L (([101,110,100]:LB_)) a2:=⟨_,rfl⟩;rw [<-e3] at hl3
 simp only at hl3
 obtain ⟨s3,hs3⟩:∃ z,z=bs (flatP v3):=⟨_,rfl⟩
 have t3:(⟨#[101,110,100]⟩:ByteArray).data.toList=([101,110,100]:LB_):=by rfl
 have y3:(⟨#[101,110,100]⟩:ByteArray).size=3:=by rfl
 have x3:(([101,110,100]:LB_)).length=3:=by rw [<-t3,<-size_list];exact y3
 have z3:s3.size<=1000000:=by rw [hs3,bs_size];omega
 have C3:=h_ (fun (w2:World) (h2:StAt w2 gs A c L a2) (h3:Bar W1 w2 gs)=>show Calls Tryz.prog 46 #[.pointer (some ⟨gs,0,none⟩),.string (⟨#[101,110,100]⟩)] w2 (fun e w'=>e=.returned (.string s3)/\StAt w' gs A c L a3/\Bar w2 w' gs) from by have h9:=taction gs A c L a2 (⟨#[101,110,100]⟩) w2 h2 (by omega) (by omega);unfold WrPost at h9;rw [t3,<-e3] at h9;rw [hs3];exact h9);have HF:=h_ (show otW L (n+1) x a=(v1++(v2++v3),a3) from by rw [hval];exact blk_eq e1 e2 e3);have HFL:=h_ (show s1++s2++s3=bs (flatP (v1++(v2++v3))) from by rw [hs1,hs2,hs3];exact ba_extA (by simp only [flatP_app,ba_app];simp))
 have nf1:¬ 9223372036854775807 < s1.size+s2.size:=by omega
 have nf2:¬ 9223372036854775807 < s1.size+s2.size+s3.size:=by omega
 have hbl:b < W.heap.size:=hcy.lt;have hbg:=HHS.out b hSb;have c0:W1.cell? ⟨b,bo,none⟩=some (.int .i64 y.kind):=(HB.out.cell hbl hbg).trans (hcy 0 _ rfl);have hb1:b < W1.heap.size:=Nat.lt_of_lt_of_le hbl HB.out.size
 have gi0:(0:Int) < (x.els.length:Int):=by omega
 clear hpn hp h hS hwo hwp kws kwn hgs t1 y1 x1 t3 y3 x3 e1 hs1 hl1 e2 hs2 hl2 e3 hs3 hl3 he hk hval ha hz hel CE hl hyk hcy hSb hpos;have k0:=H0.out.cell;have f0:=H0.out.frozen;have l0:=H0.out.lt
 go_enter Tryz.func47,Tryz.ntmps47
 go_upto_region 1 with fail;rw [<-E1.out,<-E3.out];clear E1 E3;go_upto_region 6 with fail
 refine wp_region_held_drew (S:=(fun w'=>∀ i,w'.cell? ⟨n3,i,none⟩=(#[.int .i64 x.kind,.string x.text,.int .i64 x.x.kind,.int .i64 x.x.val.kind,.bool x.x.val.bool,.int .i64 x.x.val.int,.string x.x.val.str,.slice la x.x.val.list.length lc,.slice ma x.x.val.map.length mc,.string x.x.name,.slice sa x.x.steps.length sc,.slice aa x.x.args.length ac,.string x.key,.string x.name,.slice ba x.body.length bc,.slice (some ⟨b,bo,none⟩) x.els.length ec]:Array Value)[i]?)) (by kernel_rfl) (by exact (Bar.blk ((Bar.refl W1 gs).trans (Bar.of ((Below.refl _ _).drew))) H0.out hn3).cell) (fun hHeld=>?_)
 refine mv_ 0 ?_
 refine mv_ 2 ?_
 refine mv_ 3 ?_
 refine mv_ 4 ?_
 refine mv_ 7 ?_
 refine mr_ 1 (fun K hK=>?_)
 go_simp
 refine (C1.out _ (HS.out.keep ((Below.refl _ _).drew)) ((Bar.refl W1 gs).trans (Bar.of ((Below.refl _ _).drew)))).mono ?_
 rintro e w1 ⟨rfl,ht1,hb1⟩;have HT1:=h_ ht1;have HR1:=h_ (((Bar.refl W1 gs).trans (Bar.of ((Below.refl _ _).drew))).trans hb1);clear ht1 hb1;go_wp2_with fail
 refine hK.out _ _ (by exact (Bar.blk HR1.out H0.out hn3).cell) (fun hHeld=>?_)
 clear hK K
 try simp only [Act.put,pA_,pB_,pC_]
 refine mr_ 5 (fun K hK=>?_)
 go_simp
 refine (C2.out _ HT1.out HR1.out).mono ?_
 rintro e w2 ⟨rfl,ht2,hb2⟩;have HT2:=h_ ht2;have HR2:=h_ (HR1.out.trans hb2);clear ht2 hb2;go_wp2_with fail
 refine hK.out _ _ (by exact (Bar.blk HR2.out H0.out hn3).cell) (fun hHeld=>?_)
 clear hK K
 try simp only [Act.put,pA_,pB_,pC_]
 refine mv_ 6 ?_
 refine mr_ 8 (fun K hK=>?_)
 go_simp
 refine (C3.out _ HT2.out HR2.out).mono ?_
 rintro e w3 ⟨rfl,ht3,hb3⟩;have HT3:=h_ ht3;have HR3:=h_ (HR2.out.trans hb3);clear ht3 hb3;go_wp2_with fail
 refine hK.out _ _ (by exact (Bar.blk HR3.out H0.out hn3).cell) (fun hHeld=>?_)
 clear hK K
 try simp only [Act.put,pA_,pB_,pC_]
 refine mv_ 9 ?_
 refine mv_ 10 ?_
 refine wpAnyH_done (by kernel_rfl) ?_ _
 go_wp2_with fail;go_ret;rw [HF.out]
 exact ⟨congrArg (fun s=>Ending.returned (Value.string s)) HFL.out,HT3.out,HB.out.trans HR3.out⟩
theorem ot_alt {gs:Nat} {A:OA_} {c:Nat} {L:LB_} {n:Nat} {x:Nd} {a:Nat} {W:World} {S:Nat->Prop} {la:OA_} {lc:Nat} {ma:OA_} {mc:Nat} {sa:OA_} {sc:Nat} {aa:OA_} {ac:Nat} {ba:OA_} {bc:Nat} {b bo:Nat} {ec:Nat} (hp:PartsN W S la lc ma mc sa sc aa ac ba bc (some ⟨b,bo,none⟩) ec x) (h:StAt W gs A c L a) (hS:∀ b,S b->b≠gs) {y:Nd} {la2:OA_} {lc2:Nat} {ma2:OA_} {mc2:Nat} {sa2:OA_} {sc2:Nat} {aa2:OA_} {ac2:Nat} {ba2:OA_} {bc2:Nat} {ea2:OA_} {ec2:Nat} (he:x.els=[y]) (hk:x.kind=2) (hyk:y.kind=2) (hSb:S b) (hcy:cellsAt W b bo [.int .i64 y.kind,.string y.text,.int .i64 y.x.kind,.int .i64 y.x.val.kind,.bool y.x.val.bool,.int .i64 y.x.val.int,.string y.x.val.str,.slice la2 y.x.val.list.length lc2,.slice ma2 y.x.val.map.length mc2,.string y.x.name,.slice sa2 y.x.steps.length sc2,.slice aa2 y.x.args.length ac2,.string y.key,.string y.name,.slice ba2 y.body.length bc2,.slice ea2 y.els.length ec2]) (hpick:(pickW L a 2).1≠1) {se:Nat} (hel:LenB (wrW (ndW L n) x.els) (100*se) (20*se)) (CE:∀ (a':Nat) (w2:World),StAt w2 gs A c L a'->Bar W w2 gs->a'+20*se<=1000000000->Calls Tryz.prog 11 #[.pointer (some ⟨gs,0,none⟩),.slice (some ⟨b,bo,none⟩) x.els.length ec] w2 (WrPost gs A c L (flatP (wrW (ndW L n) x.els a').1,(wrW (ndW L n) x.els a').2) w2)) (ha:a+6+20*se<=1000000000) (hz:100*se+50<=1000000):
  Calls Tryz.prog 47 #[.pointer (some ⟨gs,0,none⟩),.agg #[.int .i64 x.kind,.string x.text,.int .i64 x.x.kind,.int .i64 x.x.val.kind,.bool x.x.val.bool,.int .i64 x.x.val.int,.string x.x.val.str,.slice la x.x.val.list.length lc,.slice ma x.x.val.map.length mc,.string x.x.name,.slice sa x.x.steps.length sc,.slice aa x.x.args.length ac,.string x.key,.string x.name,.slice ba x.body.length bc,.slice (some ⟨b,bo,none⟩) x.els.length ec]] W (WrPost gs A c L (flatP (otW L (n+1) x a).1,(otW L (n+1) x a).2) W):=by
 have hwo:wtNo x=1+x.text.size+x.name.size+x.key.size+wtX 6 x.x:=rfl;have hwp:=wtX_pos (d:=6) x.x;have kws:=size_list x.key;have kwn:=size_list x.name;have hgs:=h.blk.lt;have hba:=Below.new W (.cells #[.int .i64 x.kind,.string x.text,.int .i64 x.x.kind,.int .i64 x.x.val.kind,.bool x.x.val.bool,.int .i64 x.x.val.int,.string x.x.val.str,.slice la x.x.val.list.length lc,.slice ma x.x.val.map.length mc,.string x.x.name,.slice sa x.x.steps.length sc,.slice aa x.x.args.length ac,.string x.key,.string x.name,.slice ba x.body.length bc,.slice (some ⟨b,bo,none⟩) x.els.length ec] 70);have h0:=Blk.new W 70 #[.int .i64 x.kind,.string x.text,.int .i64 x.x.kind,.int .i64 x.x.val.kind,.bool x.x.val.bool,.int .i64 x.x.val.int,.string x.x.val.str,.slice la x.x.val.list.length lc,.slice ma x.x.val.map.length mc,.string x.x.name,.slice sa x.x.steps.length sc,.slice aa x.x.args.length ac,.string x.key,.string x.name,.slice ba x.body.length bc,.slice (some ⟨b,bo,none⟩) x.els.length ec];have HS:=h_ (h.keep hba);have HB:=h_ (Bar.of (gc:=gs) hba);have H0:=h_ h0;have HXX:=h_ (hp.x.keep hba);have hpn:=hp.name;obtain ⟨W1,e1W⟩:∃ z,z=W.alloc (.cells #[.int .i64 x.kind,.string x.text,.int .i64 x.x.kind,.int .i64 x.x.val.kind,.bool x.x.val.bool,.int .i64 x.x.val.int,.string x.x.val.str,.slice la x.x.val.list.length lc,.slice ma x.x.val.map.length mc,.string x.x.name,.slice sa x.x.steps.length sc,.slice aa x.x.args.length ac,.string x.key,.string x.name,.slice ba x.body.length bc,.slice (some ⟨b,bo,none⟩) x.els.length ec] 70):=⟨_,rfl⟩;obtain ⟨n3,e3W⟩:∃ z,z=W.heap.size:=⟨_,rfl⟩;rw [<-e1W] at HS HB H0 HXX;rw [<-e3W] at H0
 have hn3:n3≠gs:=by omega
 have E1:=h_ e1W;have E3:=h_ e3W;have HHS:=h_ hS;clear hba h0 e1W e3W
 have hlen1:x.els.length=1:=by rw [he];rfl
 have gk2:(x.kind==2)=true:=by rw [hk];rfl
 have gl:((x.els.length:Int)==1)=true:=by rw [hlen1];rfl
 have g0:((x.els.length:Int)==0)=false:=by rw [hlen1];rfl
 have gy:(y.kind==2)=true:=by rw [hyk];rfl
 have hbl:b < W.heap.size:=hcy.lt;have hbg:=HHS.out b hSb;have c0:W1.cell? ⟨b,bo,none⟩=some (.int .i64 y.kind):=(HB.out.cell hbl hbg).trans (hcy 0 _ rfl);have hb1:b < W1.heap.size:=Nat.lt_of_lt_of_le hbl HB.out.size
 have gi0:(0:Int) < (x.els.length:Int):=by omega
 have hpk:=pick_next L a 2;obtain ⟨⟨pk,a0⟩,e0⟩:∃ z,z=pickW L a 2:=⟨_,rfl⟩;rw [<-e0] at hpk hpick
 simp only at hpk hpick
 have C0:=h_ (fun (w2:World) (h2:StAt w2 gs A c L a) (h3:Bar W1 w2 gs)=>show Calls Tryz.prog 34 #[.pointer (some ⟨gs,0,none⟩),.int .i64 2] w2 (fun e w'=>e=.returned (.int .i64 pk)/\StAt w' gs A c L a0/\Bar w2 w' gs) from by have h9:=tpick gs A c L a 2 w2 h2 (by omega) (by omega) (by omega);rw [<-e0] at h9;exact h9);have hl1:=act_len L (([101,108,115,101]:LB_)) a0;obtain ⟨⟨v1,a1⟩,e1⟩:∃ z,z=actW L (([101,108,115,101]:LB_)) a0:=⟨_,rfl⟩;rw [<-e1] at hl1
 simp only at hl1
 obtain ⟨s1,hs1⟩:∃ z,z=bs (flatP v1):=⟨_,rfl⟩
 have t1:(⟨#[101,108,115,101]⟩:ByteArray).data.toList=([101,108,115,101]:LB_):=by rfl
 have y1:(⟨#[101,108,115,101]⟩:ByteArray).size=4:=by rfl
 have x1:(([101,108,115,101]:LB_)).length=4:=by rw [<-t1,<-size_list];exact y1
 have z1:s1.size<=1000000:=by rw [hs1,bs_size];omega
 have C1:=h_ (fun (w2:World) (h2:StAt w2 gs A c L a0) (h3:Bar W1 w2 gs)=>show Calls Tryz.prog 46 #[.pointer (some ⟨gs,0,none⟩),.string (⟨#[101,108,115,101]⟩)] w2 (fun e w'=>e=.returned (.string s1)/\StAt w' gs A c L a1/\Bar w2 w' gs) from by have h9:=taction gs A c L a0 (⟨#[101,108,115,101]⟩) w2 h2 (by omega) (by omega);unfold WrPost at h9;rw [t1,<-e1] at h9;rw [hs1];exact h9);have hl2:=hel a1;obtain ⟨⟨v2,a2⟩,e2⟩:∃ z,z=wrW (ndW L n) x.els a1:=⟨_,rfl⟩;rw [<-e2] at hl2
 simp only at hl2
 obtain ⟨s2,hs2⟩:∃ z,z=bs (flatP v2):=⟨_,rfl⟩
 have z2:s2.size<=1000000:=by rw [hs2,bs_size];omega
 have C2:=h_ (fun (w2:World) (h2:StAt w2 gs A c L a1) (h3:Bar W1 w2 gs)=>show Calls Tryz.prog 11 #[.pointer (some ⟨gs,0,none⟩),.slice (some ⟨b,bo,none⟩) x.els.length ec] w2 (fun e w'=>e=.returned (.string s2)/\StAt w' gs A c L a2/\Bar w2 w' gs) from by have h9:=CE a1 w2 h2 (HB.out.trans h3) (by omega);unfold WrPost at h9;rw [<-e2] at h9;rw [hs2];exact h9);have hl3:=act_len L (([101,110,100]:LB_)) a2;obtain ⟨⟨v3,a3⟩,e3⟩:∃ z,z=actW L (([101,110,100]:LB_)) a2:=⟨_,rfl⟩;rw [<-e3] at hl3
 simp only at hl3
 obtain ⟨s3,hs3⟩:∃ z,z=bs (flatP v3):=⟨_,rfl⟩
 have t3:(⟨#[101,110,100]⟩:ByteArray).data.toList=([101,110,100]:LB_):=by rfl
 have y3:(⟨#[101,110,100]⟩:ByteArray).size=3:=by rfl
 have x3:(([101,110,100]:LB_)).length=3:=by rw [<-t3,<-size_list];exact y3
 have z3:s3.size<=1000000:=by rw [hs3,bs_size];omega
 have C3:=h_ (fun (w2:World) (h2:StAt w2 gs A c L a2) (h3:Bar W1 w2 gs)=>show Calls Tryz.prog 46 #[.pointer (some ⟨gs,0,none⟩),.string (⟨#[101,110,100]⟩)] w2 (fun e w'=>e=.returned (.string s3)/\StAt w' gs A c L a3/\Bar w2 w' gs) from by have h9:=taction gs A c L a2 (⟨#[101,110,100]⟩) w2 h2 (by omega) (by omega);unfold WrPost at h9;rw [t3,<-e3] at h9;rw [hs3];exact h9)
 have hval:otW L (n+1) x a=blkW L (elseW,a0) (wrW (ndW L n) x.els) (actW L endW):=by rw [otW,he];simp only;rw [if_pos ⟨hk,hyk⟩,<-e0,if_neg hpick]
 have HF:=h_ (show otW L (n+1) x a=(v1++(v2++v3),a3) from by rw [hval];exact blk_eq e1 e2 e3);have HFL:=h_ (show s1++s2++s3=bs (flatP (v1++(v2++v3))) from by rw [hs1,hs2,hs3];exact ba_extA (by simp only [flatP_app,ba_app];simp))
 have nf1:¬ 9223372036854775807 < s1.size+s2.size:=by omega
 have nf2:¬ 9223372036854775807 < s1.size+s2.size+s3.size:=by omega
 have gp:((pk:Int)==1)=false:=bf_ (by omega);clear hpn hp h hS hwo hwp kws kwn hgs t1 y1 x1 t3 y3 x3 e1 hs1 hl1 e2 hs2 hl2 e3 hs3 hl3 he hk hyk hlen1 hval ha hz hel CE hcy hSb hpick hpk e0;have k0:=H0.out.cell;have f0:=H0.out.frozen;have l0:=H0.out.lt
 go_enter Tryz.func47,Tryz.ntmps47
 go_upto_region 1 with fail;rw [<-E1.out,<-E3.out];clear E1 E3;go_wp2_with fail
 refine (C0.out _ HS.out (Bar.refl W1 gs)).mono ?_
 rintro e w0 ⟨rfl,ht0,hb0⟩;have HT0:=h_ ht0;have HR0:=h_ ((Bar.refl W1 gs).trans hb0);clear ht0 hb0;have H00:=h_ (HR0.out.blk H0.out hn3);clear k0 f0 l0;have k0:=H00.out.cell;have f0:=H00.out.frozen;have l0:=H00.out.lt;go_upto_region 6 with fail
 refine wp_region_held_drew (S:=(fun w'=>∀ i,w'.cell? ⟨n3,i,none⟩=(#[.int .i64 x.kind,.string x.text,.int .i64 x.x.kind,.int .i64 x.x.val.kind,.bool x.x.val.bool,.int .i64 x.x.val.int,.string x.x.val.str,.slice la x.x.val.list.length lc,.slice ma x.x.val.map.length mc,.string x.x.name,.slice sa x.x.steps.length sc,.slice aa x.x.args.length ac,.string x.key,.string x.name,.slice ba x.body.length bc,.slice (some ⟨b,bo,none⟩) x.els.length ec]:Array Value)[i]?)) (by kernel_rfl) (by exact (Bar.blk (HR0.out.trans (Bar.of ((Below.refl _ _).drew))) H0.out hn3).cell) (fun hHeld=>?_)
 refine mv_ 0 ?_
 refine mv_ 2 ?_
 refine mv_ 3 ?_
 refine mv_ 4 ?_
 refine mv_ 7 ?_
 refine mr_ 1 (fun K hK=>?_)
 go_simp
 refine (C1.out _ (HT0.out.keep ((Below.refl _ _).drew)) (HR0.out.trans (Bar.of ((Below.refl _ _).drew)))).mono ?_
 rintro e w1 ⟨rfl,ht1,hb1⟩;have HT1:=h_ ht1;have HR1:=h_ ((HR0.out.trans (Bar.of ((Below.refl _ _).drew))).trans hb1);clear ht1 hb1;go_wp2_with fail
 refine hK.out _ _ (by exact (Bar.blk HR1.out H0.out hn3).cell) (fun hHeld=>?_)
 clear hK K
 try simp only [Act.put,pA_,pB_,pC_]
 refine mr_ 5 (fun K hK=>?_)
 go_simp
 refine (C2.out _ HT1.out HR1.out).mono ?_
 rintro e w2 ⟨rfl,ht2,hb2⟩;have HT2:=h_ ht2;have HR2:=h_ (HR1.out.trans hb2);clear ht2 hb2;go_wp2_with fail
 refine hK.out _ _ (by exact (Bar.blk HR2.out H0.out hn3).cell) (fun hHeld=>?_)
 clear hK K
 try simp only [Act.put,pA_,pB_,pC_]
 refine mv_ 6 ?_
 refine mr_ 8 (fun K hK=>?_)
 go_simp
 refine (C3.out _ HT2.out HR2.out).mono ?_
 rintro e w3 ⟨rfl,ht3,hb3⟩;have HT3:=h_ ht3;have HR3:=h_ (HR2.out.trans hb3);clear ht3 hb3;go_wp2_with fail
 refine hK.out _ _ (by exact (Bar.blk HR3.out H0.out hn3).cell) (fun hHeld=>?_)
 clear hK K
 try simp only [Act.put,pA_,pB_,pC_]
 refine mv_ 9 ?_
 refine mv_ 10 ?_
 refine wpAnyH_done (by kernel_rfl) ?_ _
 go_wp2_with fail;go_ret;rw [HF.out]
 exact ⟨congrArg (fun s=>Ending.returned (Value.string s)) HFL.out,HT3.out,HB.out.trans HR3.out⟩
theorem ot_elif {gs:Nat} {A:OA_} {c:Nat} {L:LB_} {n:Nat} {x:Nd} {a:Nat} {W:World} {S:Nat->Prop} {la:OA_} {lc:Nat} {ma:OA_} {mc:Nat} {sa:OA_} {sc:Nat} {aa:OA_} {ac:Nat} {ba:OA_} {bc:Nat} {b bo:Nat} {ec:Nat} (hp:PartsN W S la lc ma mc sa sc aa ac ba bc (some ⟨b,bo,none⟩) ec x) (h:StAt W gs A c L a) (hS:∀ b,S b->b≠gs) {y:Nd} {la2:OA_} {lc2:Nat} {ma2:OA_} {mc2:Nat} {sa2:OA_} {sc2:Nat} {aa2:OA_} {ac2:Nat} {ba2:OA_} {bc2:Nat} {ea2:OA_} {ec2:Nat} (he:x.els=[y]) (hk:x.kind=2) (hyk:y.kind=2) (hSb:S b) (hcy:cellsAt W b bo [.int .i64 y.kind,.string y.text,.int .i64 y.x.kind,.int .i64 y.x.val.kind,.bool y.x.val.bool,.int .i64 y.x.val.int,.string y.x.val.str,.slice la2 y.x.val.list.length lc2,.slice ma2 y.x.val.map.length mc2,.string y.x.name,.slice sa2 y.x.steps.length sc2,.slice aa2 y.x.args.length ac2,.string y.key,.string y.name,.slice ba2 y.body.length bc2,.slice ea2 y.els.length ec2]) (hpick:(pickW L a 2).1=1) (hr2:RightX 6 y.x) (hp2:PartsN W S la2 lc2 ma2 mc2 sa2 sc2 aa2 ac2 ba2 bc2 ea2 ec2 y) {sby sey:Nat} (hbl2:LenB (wrW (ndW L n) y.body) (100*sby) (20*sby)) (hol2:LenB (otW L n y) (50+100*sey) (6+20*sey)) (CB2:∀ (a':Nat) (w2:World),StAt w2 gs A c L a'->Bar W w2 gs->a'+20*sby<=1000000000->Calls Tryz.prog 11 #[.pointer (some ⟨gs,0,none⟩),.slice ba2 y.body.length bc2] w2 (WrPost gs A c L (flatP (wrW (ndW L n) y.body a').1,(wrW (ndW L n) y.body a').2) w2)) (CO2:∀ (a':Nat) (w2:World),StAt w2 gs A c L a'->Bar W w2 gs->a'+6+20*sey<=1000000000->Calls Tryz.prog 47 #[.pointer (some ⟨gs,0,none⟩),.agg #[.int .i64 y.kind,.string y.text,.int .i64 y.x.kind,.int .i64 y.x.val.kind,.bool y.x.val.bool,.int .i64 y.x.val.int,.string y.x.val.str,.slice la2 y.x.val.list.length lc2,.slice ma2 y.x.val.map.length mc2,.string y.x.name,.slice sa2 y.x.steps.length sc2,.slice aa2 y.x.args.length ac2,.string y.key,.string y.name,.slice ba2 y.body.length bc2,.slice ea2 y.els.length ec2]] w2 (WrPost gs A c L (flatP (otW L n y a').1,(otW L n y a').2) w2)) (ha:a+20*(wtNo y+sby+sey)<=1000000000) (hz:100*(wtNo y+sby+sey)<=1000000):
  Calls Tryz.prog 47 #[.pointer (some ⟨gs,0,none⟩),.agg #[.int .i64 x.kind,.string x.text,.int .i64 x.x.kind,.int .i64 x.x.val.kind,.bool x.x.val.bool,.int .i64 x.x.val.int,.string x.x.val.str,.slice la x.x.val.list.length lc,.slice ma x.x.val.map.length mc,.string x.x.name,.slice sa x.x.steps.length sc,.slice aa x.x.args.length ac,.string x.key,.string x.name,.slice ba x.body.length bc,.slice (some ⟨b,bo,none⟩) x.els.length ec]] W (WrPost gs A c L (flatP (otW L (n+1) x a).1,(otW L (n+1) x a).2) W):=by
 have hwo:wtNo y=1+y.text.size+y.name.size+y.key.size+wtX 6 y.x:=rfl;have hwp:=wtX_pos (d:=6) y.x;have kws:=size_list x.key;have kwn:=size_list x.name;have hgs:=h.blk.lt;have hba:=Below.new W (.cells #[.int .i64 x.kind,.string x.text,.int .i64 x.x.kind,.int .i64 x.x.val.kind,.bool x.x.val.bool,.int .i64 x.x.val.int,.string x.x.val.str,.slice la x.x.val.list.length lc,.slice ma x.x.val.map.length mc,.string x.x.name,.slice sa x.x.steps.length sc,.slice aa x.x.args.length ac,.string x.key,.string x.name,.slice ba x.body.length bc,.slice (some ⟨b,bo,none⟩) x.els.length ec] 70);have h0:=Blk.new W 70 #[.int .i64 x.kind,.string x.text,.int .i64 x.x.kind,.int .i64 x.x.val.kind,.bool x.x.val.bool,.int .i64 x.x.val.int,.string x.x.val.str,.slice la x.x.val.list.length lc,.slice ma x.x.val.map.length mc,.string x.x.name,.slice sa x.x.steps.length sc,.slice aa x.x.args.length ac,.string x.key,.string x.name,.slice ba x.body.length bc,.slice (some ⟨b,bo,none⟩) x.els.length ec];have HS:=h_ (h.keep hba);have HB:=h_ (Bar.of (gc:=gs) hba);have H0:=h_ h0;have HXY:=h_ (hp2.x.keep hba);have hpn:=hp.name;obtain ⟨W1,e1W⟩:∃ z,z=W.alloc (.cells #[.int .i64 x.kind,.string x.text,.int .i64 x.x.kind,.int .i64 x.x.val.kind,.bool x.x.val.bool,.int .i64 x.x.val.int,.string x.x.val.str,.slice la x.x.val.list.length lc,.slice ma x.x.val.map.length mc,.string x.x.name,.slice sa x.x.steps.length sc,.slice aa x.x.args.length ac,.string x.key,.string x.name,.slice ba x.body.length bc,.slice (some ⟨b,bo,none⟩) x.els.length ec] 70):=⟨_,rfl⟩;obtain ⟨n3,e3W⟩:∃ z,z=W.heap.size:=⟨_,rfl⟩;rw [<-e1W] at HS HB H0 HXY;rw [<-e3W] at H0
 have hn3:n3≠gs:=by omega
 have E1:=h_ e1W;have E3:=h_ e3W;have HHS:=h_ hS;clear hba h0 e1W e3W
 have hlen1:x.els.length=1:=by rw [he];rfl
 have gk2:(x.kind==2)=true:=by rw [hk];rfl
 have gl:((x.els.length:Int)==1)=true:=by rw [hlen1];rfl
 have g0:((x.els.length:Int)==0)=false:=by rw [hlen1];rfl
 have gy:(y.kind==2)=true:=by rw [hyk];rfl
 have hbl:b < W.heap.size:=hcy.lt;have hbg:=HHS.out b hSb;have c0:W1.cell? ⟨b,bo,none⟩=some (.int .i64 y.kind):=(HB.out.cell hbl hbg).trans (hcy 0 _ rfl);have hb1:b < W1.heap.size:=Nat.lt_of_lt_of_le hbl HB.out.size
 have gi0:(0:Int) < (x.els.length:Int):=by omega
 have hpk:=pick_next L a 2;obtain ⟨⟨pk,a0⟩,e0⟩:∃ z,z=pickW L a 2:=⟨_,rfl⟩;rw [<-e0] at hpk hpick
 simp only at hpk hpick
 have C0:=h_ (fun (w2:World) (h2:StAt w2 gs A c L a) (h3:Bar W1 w2 gs)=>show Calls Tryz.prog 34 #[.pointer (some ⟨gs,0,none⟩),.int .i64 2] w2 (fun e w'=>e=.returned (.int .i64 pk)/\StAt w' gs A c L a0/\Bar w2 w' gs) from by have h9:=tpick gs A c L a 2 w2 h2 (by omega) (by omega) (by omega);rw [<-e0] at h9;exact h9);have hl1:=gap_len L a0;obtain ⟨⟨v1,a1⟩,e1⟩:∃ z,z=gapW L a0:=⟨_,rfl⟩;rw [<-e1] at hl1
 simp only at hl1
 obtain ⟨s1,hs1⟩:∃ z,z=bs v1:=⟨_,rfl⟩
 have z1:s1.size<=2:=by rw [hs1,bs_size];exact hl1.1
 have q1:s1.size=v1.length:=by rw [hs1,bs_size]
 have C1:=h_ (fun (w2:World) (h2:StAt w2 gs A c L a0) (h3:Bar W1 w2 gs)=>show Calls Tryz.prog 35 #[.pointer (some ⟨gs,0,none⟩)] w2 (fun e w'=>e=.returned (.string s1)/\StAt w' gs A c L a1/\Bar w2 w' gs) from by have h9:=tgap gs A c L a0 w2 h2 (by omega);rw [<-e1] at h9;rw [hs1];exact h9);have hl2:=gap_len L a1;obtain ⟨⟨v2,a2⟩,e2⟩:∃ z,z=gapW L a1:=⟨_,rfl⟩;rw [<-e2] at hl2
 simp only at hl2
 obtain ⟨s2,hs2⟩:∃ z,z=bs v2:=⟨_,rfl⟩
 have z2:s2.size<=2:=by rw [hs2,bs_size];exact hl2.1
 have q2:s2.size=v2.length:=by rw [hs2,bs_size]
 have C2:=h_ (fun (w2:World) (h2:StAt w2 gs A c L a1) (h3:Bar W1 w2 gs)=>show Calls Tryz.prog 35 #[.pointer (some ⟨gs,0,none⟩)] w2 (fun e w'=>e=.returned (.string s2)/\StAt w' gs A c L a2/\Bar w2 w' gs) from by have h9:=tgap gs A c L a1 w2 h2 (by omega);rw [<-e2] at h9;rw [hs2];exact h9);have hl3:=pip_len L 7 6 y.x a2 hr2 (by omega);obtain ⟨⟨v3,a3⟩,e3⟩:∃ z,z=pipW L 7 y.x a2:=⟨_,rfl⟩;rw [<-e3] at hl3
 simp only at hl3
 obtain ⟨s3,hs3⟩:∃ z,z=bs v3:=⟨_,rfl⟩
 have z3:s3.size<=1000000:=by rw [hs3,bs_size];omega
 have q3:s3.size=v3.length:=by rw [hs3,bs_size]
 have C3:=h_ (fun (w2:World) (h2:StAt w2 gs A c L a2) (h3:Bar W1 w2 gs)=>show Calls Tryz.prog 18 #[.pointer (some ⟨gs,0,none⟩),.agg #[.int .i64 y.x.kind,.int .i64 y.x.val.kind,.bool y.x.val.bool,.int .i64 y.x.val.int,.string y.x.val.str,.slice la2 y.x.val.list.length lc2,.slice ma2 y.x.val.map.length mc2,.string y.x.name,.slice sa2 y.x.steps.length sc2,.slice aa2 y.x.args.length ac2]] w2 (fun e w'=>e=.returned (.string s3)/\StAt w' gs A c L a3/\Bar w2 w' gs) from by have h9:=wpipe_all (gs:=gs) (A:=A) (c:=c) (L:=L) 7 6 y.x a2 w2 S _ hr2 (by omega) h2 (HXY.out.bar h3 hS) hS (by omega) (by omega);unfold WrPost at h9;rw [<-e3] at h9;rw [hs3];exact h9);have hl4:=act_len L (([101,108,115,101]:LB_)++(v1++(([105,102]:LB_)++(v2++(v3))))) a3;obtain ⟨⟨v4,a4⟩,e4⟩:∃ z,z=actW L (([101,108,115,101]:LB_)++(v1++(([105,102]:LB_)++(v2++(v3))))) a3:=⟨_,rfl⟩;rw [<-e4] at hl4
 simp only at hl4
 obtain ⟨s4,hs4⟩:∃ z,z=bs (flatP v4):=⟨_,rfl⟩
 have t4:(⟨#[101,108,115,101]⟩++s1++⟨#[105,102]⟩++s2++s3:ByteArray).data.toList=([101,108,115,101]:LB_)++(v1++(([105,102]:LB_)++(v2++(v3)))):=by rw [hs1,hs2,hs3];simp only [ba_app];simp
 have y4:(⟨#[101,108,115,101]⟩++s1++⟨#[105,102]⟩++s2++s3:ByteArray).size=4+s1.size+2+s2.size+s3.size:=by simp only [ByteArray.size_append];rfl
 have x4:(([101,108,115,101]:LB_)++(v1++(([105,102]:LB_)++(v2++(v3))))).length=4+s1.size+2+s2.size+s3.size:=by rw [<-t4,<-size_list];exact y4
 have z4:s4.size<=1000000:=by rw [hs4,bs_size];omega
 have nf1:¬ 9223372036854775807 < 4+s1.size:=by omega
 have nf2:¬ 9223372036854775807 < 4+s1.size+2:=by omega
 have nf3:¬ 9223372036854775807 < 4+s1.size+2+s2.size:=by omega
 have nf4:¬ 9223372036854775807 < 4+s1.size+2+s2.size+s3.size:=by omega
 have C4:=h_ (fun (w2:World) (h2:StAt w2 gs A c L a3) (h3:Bar W1 w2 gs)=>show Calls Tryz.prog 46 #[.pointer (some ⟨gs,0,none⟩),.string (⟨#[101,108,115,101]⟩++s1++⟨#[105,102]⟩++s2++s3)] w2 (fun e w'=>e=.returned (.string s4)/\StAt w' gs A c L a4/\Bar w2 w' gs) from by have h9:=taction gs A c L a3 (⟨#[101,108,115,101]⟩++s1++⟨#[105,102]⟩++s2++s3) w2 h2 (by omega) (by omega);unfold WrPost at h9;rw [t4,<-e4] at h9;rw [hs4];exact h9);have hl5:=hbl2 a4;obtain ⟨⟨v5,a5⟩,e5⟩:∃ z,z=wrW (ndW L n) y.body a4:=⟨_,rfl⟩;rw [<-e5] at hl5
 simp only at hl5
 obtain ⟨s5,hs5⟩:∃ z,z=bs (flatP v5):=⟨_,rfl⟩
 have z5:s5.size<=1000000:=by rw [hs5,bs_size];omega
 have C5:=h_ (fun (w2:World) (h2:StAt w2 gs A c L a4) (h3:Bar W1 w2 gs)=>show Calls Tryz.prog 11 #[.pointer (some ⟨gs,0,none⟩),.slice ba2 y.body.length bc2] w2 (fun e w'=>e=.returned (.string s5)/\StAt w' gs A c L a5/\Bar w2 w' gs) from by have h9:=CB2 a4 w2 h2 (HB.out.trans h3) (by omega);unfold WrPost at h9;rw [<-e5] at h9;rw [hs5];exact h9);have hl6:=hol2 a5;obtain ⟨⟨v6,a6⟩,e6⟩:∃ z,z=otW L n y a5:=⟨_,rfl⟩;rw [<-e6] at hl6
 simp only at hl6
 obtain ⟨s6,hs6⟩:∃ z,z=bs (flatP v6):=⟨_,rfl⟩
 have z6:s6.size<=1000000:=by rw [hs6,bs_size];omega
 have C6:=h_ (fun (w2:World) (h2:StAt w2 gs A c L a5) (h3:Bar W1 w2 gs)=>show Calls Tryz.prog 47 #[.pointer (some ⟨gs,0,none⟩),.agg #[.int .i64 y.kind,.string y.text,.int .i64 y.x.kind,.int .i64 y.x.val.kind,.bool y.x.val.bool,.int .i64 y.x.val.int,.string y.x.val.str,.slice la2 y.x.val.list.length lc2,.slice ma2 y.x.val.map.length mc2,.string y.x.name,.slice sa2 y.x.steps.length sc2,.slice aa2 y.x.args.length ac2,.string y.key,.string y.name,.slice ba2 y.body.length bc2,.slice ea2 y.els.length ec2]] w2 (fun e w'=>e=.returned (.string s6)/\StAt w' gs A c L a6/\Bar w2 w' gs) from by have h9:=CO2 a5 w2 h2 (HB.out.trans h3) (by omega);unfold WrPost at h9;rw [<-e6] at h9;rw [hs6];exact h9)
 have hmid:midW L y a1=gapW L a1:=by unfold midW;rw [if_neg (by omega)]
 have hhd:headW L y a1=([105,102]++(v2++v3),a3):=by unfold headW;rw [hmid,<-e2];simp only;rw [<-e3,hyk];rfl
 have hval:otW L (n+1) x a=blkW L (([101,108,115,101]:LB_)++(v1++(([105,102]:LB_)++(v2++(v3)))),a3) (wrW (ndW L n) y.body) (otW L n y):=by rw [otW,he];simp only;rw [if_pos ⟨hk,hyk⟩,<-e0,if_pos hpick];simp only;rw [<-e1];simp only;rw [hhd];rfl
 have HF:=h_ (show otW L (n+1) x a=(v4++(v5++v6),a6) from by rw [hval];exact blk_eq e4 e5 e6);have HFL:=h_ (show s4++s5++s6=bs (flatP (v4++(v5++v6))) from by rw [hs4,hs5,hs6];exact ba_extA (by simp only [flatP_app,ba_app];simp))
 have nf5:¬ 9223372036854775807 < s4.size+s5.size:=by omega
 have nf6:¬ 9223372036854775807 < s4.size+s5.size+s6.size:=by omega
 have gp:((pk:Int)==1)=true:=by rw [hpick];rfl
 have HCY:=h_ (fun (w2:World) (h2:Bar W1 w2 gs)=>show cellsAt w2 b bo [.int .i64 y.kind,.string y.text,.int .i64 y.x.kind,.int .i64 y.x.val.kind,.bool y.x.val.bool,.int .i64 y.x.val.int,.string y.x.val.str,.slice la2 y.x.val.list.length lc2,.slice ma2 y.x.val.map.length mc2,.string y.x.name,.slice sa2 y.x.steps.length sc2,.slice aa2 y.x.args.length ac2,.string y.key,.string y.name,.slice ba2 y.body.length bc2,.slice ea2 y.els.length ec2] from hcy.keep fun i=>(h2.cell hb1 hbg).trans (HB.out.cell hbl hbg));clear hpn hp h hS hwo hwp kws kwn hgs q1 q2 q3 t4 y4 x4 e1 hs1 hl1 e2 hs2 hl2 e3 hs3 hl3 e4 hs4 hl4 e5 hs5 hl5 e6 hs6 hl6 he hk hyk hlen1 hval ha hz hbl2 hol2 CB2 CO2 hcy hSb hpick hpk e0 hmid hhd hr2 hp2 HXY;have k0:=H0.out.cell;have f0:=H0.out.frozen;have l0:=H0.out.lt
 go_enter Tryz.func47,Tryz.ntmps47
 go_upto_region 1 with fail;rw [<-E1.out,<-E3.out];clear E1 E3;go_wp2_with fail
 refine (C0.out _ HS.out (Bar.refl W1 gs)).mono ?_
 rintro e w0 ⟨rfl,ht0,hb0⟩;have HT0:=h_ ht0;have HR0:=h_ ((Bar.refl W1 gs).trans hb0);clear ht0 hb0;have H00:=h_ (HR0.out.blk H0.out hn3);clear k0 f0 l0;have k0:=H00.out.cell;have f0:=H00.out.frozen;have l0:=H00.out.lt;have hcw:=HCY.out _ HR0.out;have c0:w0.cell? ⟨b,bo,none⟩=some (.int .i64 y.kind):=hcw 0 _ rfl;have c1:w0.cell? ⟨b,bo+1,none⟩=some (.string y.text):=hcw 1 _ rfl;have c2:w0.cell? ⟨b,bo+2,none⟩=some (.int .i64 y.x.kind):=hcw 2 _ rfl;have c3:w0.cell? ⟨b,bo+3,none⟩=some (.int .i64 y.x.val.kind):=hcw 3 _ rfl;have c4:w0.cell? ⟨b,bo+4,none⟩=some (.bool y.x.val.bool):=hcw 4 _ rfl;have c5:w0.cell? ⟨b,bo+5,none⟩=some (.int .i64 y.x.val.int):=hcw 5 _ rfl;have c6:w0.cell? ⟨b,bo+6,none⟩=some (.string y.x.val.str):=hcw 6 _ rfl;have c7:w0.cell? ⟨b,bo+7,none⟩=some (.slice la2 y.x.val.list.length lc2):=hcw 7 _ rfl;have c8:w0.cell? ⟨b,bo+8,none⟩=some (.slice ma2 y.x.val.map.length mc2):=hcw 8 _ rfl;have c9:w0.cell? ⟨b,bo+9,none⟩=some (.string y.x.name):=hcw 9 _ rfl;have c10:w0.cell? ⟨b,bo+10,none⟩=some (.slice sa2 y.x.steps.length sc2):=hcw 10 _ rfl;have c11:w0.cell? ⟨b,bo+11,none⟩=some (.slice aa2 y.x.args.length ac2):=hcw 11 _ rfl;have c12:w0.cell? ⟨b,bo+12,none⟩=some (.string y.key):=hcw 12 _ rfl;have c13:w0.cell? ⟨b,bo+13,none⟩=some (.string y.name):=hcw 13 _ rfl;have c14:w0.cell? ⟨b,bo+14,none⟩=some (.slice ba2 y.body.length bc2):=hcw 14 _ rfl;have c15:w0.cell? ⟨b,bo+15,none⟩=some (.slice ea2 y.els.length ec2):=hcw 15 _ rfl;have hlb0:b < w0.heap.size:=Nat.lt_of_lt_of_le hb1 HR0.out.size;have HRA:=h_ (HR0.out.trans (Bar.of (gc:=gs) (Below.new w0 (.cells (aN y la2 lc2 ma2 mc2 sa2 sc2 aa2 ac2 ba2 bc2 ea2 ec2) 70))));have HTA:=h_ (HT0.out.keep (Below.new w0 (.cells (aN y la2 lc2 ma2 mc2 sa2 sc2 aa2 ac2 ba2 bc2 ea2 ec2) 70)));have H5:=h_ (Blk.new w0 70 (aN y la2 lc2 ma2 mc2 sa2 sc2 aa2 ac2 ba2 bc2 ea2 ec2))
 have hn5:w0.heap.size≠gs:=by have:=HT0.out.blk.lt;omega
 clear hcw;unfold aN at *;go_upto_region 5 with fail;obtain ⟨WA,eA⟩:∃ z,z=w0.alloc (.cells #[.int .i64 y.kind,.string y.text,.int .i64 y.x.kind,.int .i64 y.x.val.kind,.bool y.x.val.bool,.int .i64 y.x.val.int,.string y.x.val.str,.slice la2 y.x.val.list.length lc2,.slice ma2 y.x.val.map.length mc2,.string y.x.name,.slice sa2 y.x.steps.length sc2,.slice aa2 y.x.args.length ac2,.string y.key,.string y.name,.slice ba2 y.body.length bc2,.slice ea2 y.els.length ec2] 70):=⟨_,rfl⟩;obtain ⟨n5,e5⟩:∃ z,z=w0.heap.size:=⟨_,rfl⟩;rw [<-eA] at HRA HTA H5;rw [<-e5] at H5 hn5;rw [<-eA,<-e5];clear eA e5 k0 f0 l0 c0 c1 c2 c3 c4 c5 c6 c7 c8 c9 c10 c11 c12 c13 c14 c15;go_upto_region 5 with fail
 refine wp_region_held_drew (S:=(fun w'=>∀ i,w'.cell? ⟨n5,i,none⟩=(#[.int .i64 y.kind,.string y.text,.int .i64 y.x.kind,.int .i64 y.x.val.kind,.bool y.x.val.bool,.int .i64 y.x.val.int,.string y.x.val.str,.slice la2 y.x.val.list.length lc2,.slice ma2 y.x.val.map.length mc2,.string y.x.name,.slice sa2 y.x.steps.length sc2,.slice aa2 y.x.args.length ac2,.string y.key,.string y.name,.slice ba2 y.body.length bc2,.slice ea2 y.els.length ec2]:Array Value)[i]?)) (by kernel_rfl) (by exact (Bar.blk ((Bar.refl WA gs).trans (Bar.of ((Below.refl _ _).drew))) H5.out hn5).cell) (fun hHeld=>?_)
 refine mv_ 0 ?_
 refine mv_ 1 ?_
 refine mv_ 5 ?_
 refine mv_ 8 ?_
 refine mv_ 9 ?_
 refine mv_ 10 ?_
 refine mv_ 14 ?_
 refine mv_ 15 ?_
 refine mv_ 16 ?_
 refine mv_ 19 ?_
 refine mv_ 20 ?_
 refine mr_ 2 (fun K hK=>?_)
 go_simp
 refine (C1.out _ (HTA.out.keep ((Below.refl _ _).drew)) (HRA.out.trans (Bar.of ((Below.refl _ _).drew)))).mono ?_
 rintro e w1 ⟨rfl,ht1,hb1⟩;have HQ1:=h_ (((Bar.refl WA gs).trans (Bar.of ((Below.refl _ _).drew))).trans hb1);have HT1:=h_ ht1;have HR1:=h_ ((HRA.out.trans (Bar.of ((Below.refl _ _).drew))).trans hb1);clear ht1 hb1;go_wp2_with fail
 refine hK.out _ _ (by exact (Bar.blk HQ1.out H5.out hn5).cell) (fun hHeld=>?_)
 clear hK K
 try simp only [Act.put,pA_,pB_,pC_]
 refine mv_ 3 ?_
 refine mv_ 4 ?_
 refine mr_ 6 (fun K hK=>?_)
 go_simp
 refine (C2.out _ HT1.out HR1.out).mono ?_
 rintro e w2 ⟨rfl,ht2,hb2⟩;have HQ2:=h_ (HQ1.out.trans hb2);have HT2:=h_ ht2;have HR2:=h_ (HR1.out.trans hb2);clear ht2 hb2;go_wp2_with fail
 refine hK.out _ _ (by exact (Bar.blk HQ2.out H5.out hn5).cell) (fun hHeld=>?_)
 clear hK K
 try simp only [Act.put,pA_,pB_,pC_]
 refine mv_ 7 ?_
 refine mr_ 11 (fun K hK=>?_)
 go_simp
 refine (C3.out _ HT2.out HR2.out).mono ?_
 rintro e w3 ⟨rfl,ht3,hb3⟩;have HQ3:=h_ (HQ2.out.trans hb3);have HT3:=h_ ht3;have HR3:=h_ (HR2.out.trans hb3);clear ht3 hb3;go_wp2_with fail
 refine hK.out _ _ (by exact (Bar.blk HQ3.out H5.out hn5).cell) (fun hHeld=>?_)
 clear hK K
 try simp only [Act.put,pA_,pB_,pC_]
 refine mv_ 12 ?_
 refine mr_ 13 (fun K hK=>?_)
 go_simp
 refine (C4.out _ HT3.out HR3.out).mono ?_
 rintro e w4 ⟨rfl,ht4,hb4⟩;have HQ4:=h_ (HQ3.out.trans hb4);have HT4:=h_ ht4;have HR4:=h_ (HR3.out.trans hb4);clear ht4 hb4;go_wp2_with fail
 refine hK.out _ _ (by exact (Bar.blk HQ4.out H5.out hn5).cell) (fun hHeld=>?_)
 clear hK K
 try simp only [Act.put,pA_,pB_,pC_]
 refine mr_ 17 (fun K hK=>?_)
 go_simp
 refine (C5.out _ HT4.out HR4.out).mono ?_
 rintro e w5 ⟨rfl,ht5,hb5⟩;have HQ5:=h_ (HQ4.out.trans hb5);have HT5:=h_ ht5;have HR5:=h_ (HR4.out.trans hb5);clear ht5 hb5;go_wp2_with fail
 refine hK.out _ _ (by exact (Bar.blk HQ5.out H5.out hn5).cell) (fun hHeld=>?_)
 clear hK K
 try simp only [Act.put,pA_,pB_,pC_]
 refine mv_ 18 ?_
 refine mr_ 21 (fun K hK=>?_)
 go_simp
 refine (C6.out _ HT5.out HR5.out).mono ?_
 rintro e w6 ⟨rfl,ht6,hb6⟩;have HQ6:=h_ (HQ5.out.trans hb6);have HT6:=h_ ht6;have HR6:=h_ (HR5.out.trans hb6);clear ht6 hb6;go_wp2_with fail
 refine hK.out _ _ (by exact (Bar.blk HQ6.out H5.out hn5).cell) (fun hHeld=>?_)
 clear hK K
 try simp only [Act.put,pA_,pB_,pC_]
 refine mv_ 22 ?_
 refine mv_ 23 ?_
 refine wpAnyH_done (by kernel_rfl) ?_ _
 go_wp2_with fail;go_ret;rw [HF.out]
 exact ⟨congrArg (fun s=>Ending.returned (Value.string s)) HFL.out,HT6.out,HB.out.trans HR6.out⟩
theorem RepN.bar {w w':World} {gc:Nat} {S:Nat->Prop} {cs:List Value} {x:Nd} (h:RepN w S cs x) (g:Bar w w' gc) (hS:∀ b,S b->b≠gc):RepN w' S cs x:=h.mono (fun _ h _=>h) fun _ _ hb hlt=>g.cell hlt (hS _ hb)
theorem RepNs.bar {w w':World} {gc:Nat} {S:Nat->Prop} {a:OA_} {l:List Nd} (h:RepNs w S a l) (g:Bar w w' gc) (hS:∀ b,S b->b≠gc):RepNs w' S a l:=h.mono (fun _ h _=>h) fun _ _ hb hlt=>g.cell hlt (hS _ hb)
theorem wr_all {gs:Nat} {A:OA_} {c:Nat} {L:LB_} {n:Nat} {l:List Nd} {a:Nat} {W:World} {S:Nat->Prop} {ba:OA_} {bc:Nat} {m:Nd->Nat}
  (hN:∀ x ∈ l,∀ (a':Nat) (w2:World) (cs:List Value),StAt w2 gs A c L a'->RepN w2 S cs x->a'+20*m x<=1000000000->Calls Tryz.prog 26 #[.pointer (some ⟨gs,0,none⟩),.agg (List.toArray cs)] w2 (WrPost gs A c L (flatP (ndW L n x a').1,(ndW L n x a').2) w2))
  (hl:∀ x ∈ l,LenB (ndW L n x) (100*m x) (20*m x)) (hx:RepNs W S ba l) (hroom:Room l.length bc 264) (h:StAt W gs A c L a) (hS:∀ b,S b->b≠gs) (ha:a+20*(l.map m).sum<=1000000000) (hz:100*(l.map m).sum<=1000000):
  Calls Tryz.prog 11 #[.pointer (some ⟨gs,0,none⟩),.slice ba l.length bc] W (WrPost gs A c L (flatP (wrW (ndW L n) l a).1,(wrW (ndW L n) l a).2) W):=by
 have hlen:=(wr_len l hl a).1;obtain ⟨F,hF⟩:∃ z,z=(flatP (wrW (ndW L n) l a).1,(wrW (ndW L n) l a).2):=⟨_,rfl⟩
 have hFl:F.1.length<=1000000:=by rw [hF];show (flatP (wrW (ndW L n) l a).1).length<=_;omega
 have HI0:=h_ (show (⟨#[]⟩:ByteArray).data.toList++flatP (wrW (ndW L n) (l.drop 0) a).1=F.1/\(wrW (ndW L n) (l.drop 0) a).2=F.2 from ⟨by rw [hF];rfl,by rw [hF];rfl⟩);have HI1:=h_ (show a+20*((l.drop 0).map m).sum<=1000000000 from ha);rw [<-hF];have HN:=h_ hN;have HLL:=h_ hl;have HX:=h_ hx;have H:=h_ h;have HHS:=h_ hS;have hac:=hroom.2.2;clear hN hx h hS hlen hF ha hz hroom hl
 go_enter Tryz.func11,Tryz.ntmps11
 go_wp2_with fail
 go_loopw [5,6] (fun x5 x6 wr=>∃ (q:Nat) (tv:ByteArray) (aq:Nat),q<=l.length/\x6=.int .i64 q/\x5=.string tv/\Hid (tv.data.toList++flatP (wrW (ndW L n) (l.drop q) aq).1=F.1/\(wrW (ndW L n) (l.drop q) aq).2=F.2)/\Hid (aq+20*((l.drop q).map m).sum<=1000000000)/\Hid (StAt wr gs A c L aq)/\Hid (Bar W wr gs)) (fun _ x6 _=>l.length - (Lib.intOf x6).toNat)
 case atStart=>exact ⟨0,_,a,Nat.zero_le _,rfl,rfl,HI0,HI1,H,h_ (Bar.refl _ _)⟩
 case round=>
  obtain ⟨q,tv,aq,hq,rfl,rfl,HQ,HQS,HQT,HQB⟩:=hrel;clear HI0 HI1
  by_cases hlt:q < l.length
  ·obtain ⟨b,bo,cs,rfl,hSb,hcell,hry⟩:=HX.out q hlt
   have hcn:=HN.out l[q] (List.getElem_mem hlt);obtain ⟨y,hy⟩:∃ z,z=l[q]:=⟨_,rfl⟩;rw [<-hy] at hry hcn
   have hdr:l.drop q=y::l.drop (q+1):=by rw [drop_cons hlt,hy]
   have hq2:=HQ.out;have hqs:=HQS.out;rw [hdr,wrW,flatP_app] at hq2;rw [hdr,List.map_cons,List.sum_cons] at hqs
   simp only at hq2
   obtain ⟨la,lc,ma,mc,sa,sc,aa,ac,ba,bc2,ea,ec,rfl, -⟩:=hry.inv;have hlt0:b < W.heap.size:=hcell.lt;have hbg:=HHS.out b hSb
   have hcw:cellsAt wr b (bo+q*16) [.int .i64 y.kind,.string y.text,.int .i64 y.x.kind,.int .i64 y.x.val.kind,.bool y.x.val.bool,.int .i64 y.x.val.int,.string y.x.val.str,.slice la y.x.val.list.length lc,.slice ma y.x.val.map.length mc,.string y.x.name,.slice sa y.x.steps.length sc,.slice aa y.x.args.length ac,.string y.key,.string y.name,.slice ba y.body.length bc2,.slice ea y.els.length ec]:=hcell.keep fun i=>HQB.out.cell hlt0 hbg
   have c0:wr.cell? ⟨b,bo+q*16,none⟩=some (.int .i64 y.kind):=hcw 0 _ rfl;have c1:wr.cell? ⟨b,bo+q*16+1,none⟩=some (.string y.text):=hcw 1 _ rfl;have c2:wr.cell? ⟨b,bo+q*16+2,none⟩=some (.int .i64 y.x.kind):=hcw 2 _ rfl;have c3:wr.cell? ⟨b,bo+q*16+3,none⟩=some (.int .i64 y.x.val.kind):=hcw 3 _ rfl;have c4:wr.cell? ⟨b,bo+q*16+4,none⟩=some (.bool y.x.val.bool):=hcw 4 _ rfl;have c5:wr.cell? ⟨b,bo+q*16+5,none⟩=some (.int .i64 y.x.val.int):=hcw 5 _ rfl;have c6:wr.cell? ⟨b,bo+q*16+6,none⟩=some (.string y.x.val.str):=hcw 6 _ rfl;have c7:wr.cell? ⟨b,bo+q*16+7,none⟩=some (.slice la y.x.val.list.length lc):=hcw 7 _ rfl;have c8:wr.cell? ⟨b,bo+q*16+8,none⟩=some (.slice ma y.x.val.map.length mc):=hcw 8 _ rfl;have c9:wr.cell? ⟨b,bo+q*16+9,none⟩=some (.string y.x.name):=hcw 9 _ rfl;have c10:wr.cell? ⟨b,bo+q*16+10,none⟩=some (.slice sa y.x.steps.length sc):=hcw 10 _ rfl;have c11:wr.cell? ⟨b,bo+q*16+11,none⟩=some (.slice aa y.x.args.length ac):=hcw 11 _ rfl;have c12:wr.cell? ⟨b,bo+q*16+12,none⟩=some (.string y.key):=hcw 12 _ rfl;have c13:wr.cell? ⟨b,bo+q*16+13,none⟩=some (.string y.name):=hcw 13 _ rfl;have c14:wr.cell? ⟨b,bo+q*16+14,none⟩=some (.slice ba y.body.length bc2):=hcw 14 _ rfl;have c15:wr.cell? ⟨b,bo+q*16+15,none⟩=some (.slice ea y.els.length ec):=hcw 15 _ rfl;have hlb:b < wr.heap.size:=Nat.lt_of_lt_of_le hlt0 HQB.out.size;have CN:=hcn aq wr _ HQT.out (hry.bar HQB.out HHS.out) (by omega);obtain ⟨⟨v,a2⟩,hv⟩:∃ z,z=ndW L n y aq:=⟨_,rfl⟩;rw [<-hv] at CN hq2
   simp only at CN hq2
   obtain ⟨sv,hsv⟩:∃ z,z=bs (flatP v):=⟨_,rfl⟩;unfold WrPost at CN
   simp only at CN
   rw [<-hsv] at CN;have HNX:=h_ (show (tv++sv).data.toList++flatP (wrW (ndW L n) (l.drop (q+1)) a2).1=F.1/\(wrW (ndW L n) (l.drop (q+1)) a2).2=F.2 from ⟨by rw [<-hq2.1,hsv];simp,hq2.2⟩);have HNS:=h_ (show (ndW L n y aq).2<=aq+20*m y->a2+20*((l.drop (q+1)).map m).sum<=1000000000 from fun h9=>by rw [<-hv] at h9;simp only at h9;omega);have HLN:=h_ hcn
   have hzz:tv.size+sv.size<=1000000:=by have h9:=congrArg List.length hq2.1;simp only [List.length_append] at h9;have e1:=size_list tv;(have e2:sv.size=(flatP v).length:=by rw [hsv,bs_size]);omega
   have hnot:¬ 9223372036854775807 < tv.size+sv.size:=by omega
   have HCN:=h_ CN;have HY:=h_ hy
   have hg0:(0:Int)<=(q:Int):=by omega
   have hg1:(q:Int) < (l.length:Int):=by omega
   have hwk:IntKind.i64.wrap ((q:Int)+1)=(q:Int)+1:=wrap_fit (by omega) (by omega);clear hcell hcw hry hcn hq2 hqs hdr hy hv hsv CN HQ HQS HLN;go_wp2_with fail
   refine HCN.out.mono ?_
   rintro e w2 ⟨rfl,hst,hbar⟩;have HT2:=h_ hst;have HB2:=h_ (HQB.out.trans hbar);clear hst hbar;go_wp2_with fail
   go_roundw
   case rel=>exact ⟨q+1,_,a2,by omega,by go_num,rfl,HNX,h_ (HNS.out (by rw [HY.out];exact (HLL.out _ (List.getElem_mem hlt) aq).2)),HT2,HB2⟩
   case measure=>simp [Lib.intOf];omega
  ·obtain rfl:q=l.length:=by omega
   have HE:=h_ (show F=(tv.data.toList,aq) from by have h9:=HQ.out;rw [List.drop_length] at h9;exact (Prod.ext (show tv.data.toList=F.1 from by rw [<-h9.1];simp [wrW,flatP]) (show aq=F.2 from h9.2)).symm);clear hlt;go_wp2_with fail;go_ret
   exact ⟨by rw [HE.out];rfl,by rw [HE.out];exact HQT.out,HQB.out⟩
end Go.Proofs.YtnblmhfgmehnnaaGreatDoor
namespace Go.Proofs.YtnblmhfgmehnnaaGreatDoor
open Go.RowKit Go.Lib
section
variable (gs:Nat) (A:OA_) (c:Nat) (L:LB_)
def NdR (n:Nat):Prop:=∀ (d:Nat) (top:Prop) (x:Nd) (a:Nat) (W:World) (S:Nat->Prop) (cs:List Value),SoundN d top x->2*d+2<=n->StAt W gs A c L a->RepN W S cs x->(∀ b,S b->b≠gs)->a+20*wtN d x<=1000000000->100*wtN d x<=1000000->Calls Tryz.prog 26 #[.pointer (some ⟨gs,0,none⟩),.agg (List.toArray cs)] W (WrPost gs A c L (flatP (ndW L n x a).1,(ndW L n x a).2) W)
def OtR (n:Nat):Prop:=∀ (d:Nat) (top:Prop) (x:Nd) (a:Nat) (W:World) (S:Nat->Prop) (cs:List Value),SoundN d top x->2*d+1<=n->StAt W gs A c L a->RepN W S cs x->(∀ b,S b->b≠gs)->a+6+20*(x.els.map (wtN (d - 1))).sum<=1000000000->100*(x.els.map (wtN (d - 1))).sum+50<=1000000->Calls Tryz.prog 47 #[.pointer (some ⟨gs,0,none⟩),.agg (List.toArray cs)] W (WrPost gs A c L (flatP (otW L n x a).1,(otW L n x a).2) W)
end
section
variable {gs:Nat} {A:OA_} {c:Nat} {L:LB_}
theorem body_wr {n d:Nat} {l:List Nd} {W:World} {S:Nat->Prop} {ba:OA_} {bc:Nat} (hN:NdR gs A c L n) (hl:∀ y ∈ l,SoundN (d - 1) False y) (hd:l=[]\/0 < d/\2*d<=n) (hx:RepNs W S ba l) (hroom:Room l.length bc 264) (hS:∀ b,S b->b≠gs) (hz:100*(l.map (wtN (d - 1))).sum<=1000000):
  ∀ (a':Nat) (w2:World),StAt w2 gs A c L a'->Bar W w2 gs->a'+20*(l.map (wtN (d - 1))).sum<=1000000000->Calls Tryz.prog 11 #[.pointer (some ⟨gs,0,none⟩),.slice ba l.length bc] w2 (WrPost gs A c L (flatP (wrW (ndW L n) l a').1,(wrW (ndW L n) l a').2) w2):=by
 intro a' w2 h1 h2 h3
 have hdn:∀ y ∈ l,2*(d - 1)+2<=n:=fun y hy=>by
  have:=hd.resolve_left (fun e=>by rw [e] at hy;cases hy)
  omega
 refine wr_all (m:=wtN (d - 1)) (fun y hy a2 w3 cs k1 k2 k3=>?_) (fun y hy=>(nodes_len L n).1 (d - 1) False y (hl y hy) (hdn y hy)) (hx.bar h2 hS) hroom h1 hS h3 hz
 have hm:=sum_mem (wtN (d - 1)) hy
 exact hN (d - 1) False y a2 w3 S cs (hl y hy) (hdn y hy) k1 k2 hS k3 (by omega)
theorem nodes_wr:∀ n,NdR gs A c L n/\OtR gs A c L n
 | 0=>⟨fun d top x a W S cs _ h=>by omega,fun d top x a W S cs _ h=>by omega⟩
 | n+1=>by
  obtain ⟨hN,hO⟩:=nodes_wr n
  refine ⟨fun d top x a W S cs hx hn h hr hS ha hz=>?_,fun d top x a W S cs hx hn h hr hS ha hz=>?_⟩
  ·have ho:=hx.own
   have hw:=wtN_step hx;have hwo:wtNo x=1+x.text.size+x.name.size+x.key.size+wtX 6 x.x:=rfl;have hwp:=wtX_pos (d:=6) x.x;obtain ⟨la,lc,ma,mc,sa,sc,aa,ac,ba,bc,ea,ec,rfl,hp⟩:=hr.inv
   have hbd:x.body=[]\/0 < d/\2*d<=n:=by
    rcases hx.deep with h | h
    ·exact .inl h.1
    ·exact .inr ⟨h,by omega⟩
   have hdn:∀ y ∈ x.body,2*(d - 1)+2<=n:=fun y hy=>by
    have:=hbd.resolve_left (fun e=>by rw [e] at hy;cases hy)
    omega
   have CB:=body_wr hN hx.body hbd hp.body hp.broom hS (by omega);have hbl:=wr_len (node:=ndW L n) (m:=wtN (d - 1)) x.body (fun y hy=>(nodes_len L n).1 (d - 1) False y (hx.body y hy) (hdn y hy))
   have CO:=fun (a':Nat) (w2:World) (h1:StAt w2 gs A c L a') (h2:Bar W w2 gs) (h3:a'+6+20*(x.els.map (wtN (d - 1))).sum<=1000000000)=>hO d top x a' w2 S _ hx (by omega) h1 (hr.bar h2 hS) hS h3 (by omega)
   have hol:=(nodes_len L n).2 d top x hx (by omega);have hrx:=hx.right
   rcases ho.kind with hk | hk | hk | hk | hk | hk | hk
   ·exact nd_k0 hp h hS hk
   ·exact nd_k1 hrx hp h hS hk (by omega) (by omega)
   ·exact nd_k2 hrx hp h hS hk hbl CB hol CO (by omega) (by omega)
   ·exact nd_k3 hrx hp h hS hk hbl CB hol CO (by omega) (by omega)
   ·by_cases hky:x.key=⟨#[]⟩
    ·by_cases hnm:x.name=⟨#[]⟩
     ·exact nd_k4c hrx hp h hS hk hky hnm hbl CB hol CO (by omega) (by omega)
     ·exact nd_k4b hrx hp h hS hk hky hnm hbl CB hol CO (by omega) (by omega)
    ·exact nd_k4a hrx hp h hS hk hky hbl CB hol CO (by omega) (by omega)
   ·exact nd_k5 hrx hp h hS hk (by omega) (by omega)
   ·exact nd_k6 hp h hS hk hbl CB (by omega) (by omega)
  ·obtain ⟨la,lc,ma,mc,sa,sc,aa,ac,ba,bc,ea,ec,rfl,hp⟩:=hr.inv
   have ed:x.els=[]\/0 < d/\2*d<=n:=by
    rcases hx.deep with h | h
    ·exact .inl h.2
    ·exact .inr ⟨h,by omega⟩
   by_cases he:x.els=[]
   ·exact ot_end hp h hS he (by omega)
   ·have hd0:=ed.resolve_left he
    have hdn:∀ y ∈ x.els,2*(d - 1)+2<=n:=fun y _=>by omega
    have CE:=body_wr hN hx.els ed hp.els hp.eroom hS (by omega);have hel:=wr_len (node:=ndW L n) (m:=wtN (d - 1)) x.els (fun y hy=>(nodes_len L n).1 (d - 1) False y (hx.els y hy) (hdn y hy));have hpos:=List.length_pos_iff.2 he
    by_cases hk:x.kind=2
    ·by_cases hl:x.els.length=1
     ·obtain ⟨y,hy⟩:=List.length_eq_one_iff.1 hl
      have hye:y ∈ x.els:=by rw [hy];exact List.mem_cons_self ..
      have hsy:=hx.els y hye;obtain ⟨b,bo,csy,rfl,hSb,hcy,hry⟩:=hp.els 0 hpos
      have hy0:x.els[0]=y:=by simp [hy]
      rw [hy0] at hry;obtain ⟨la2,lc2,ma2,mc2,sa2,sc2,aa2,ac2,ba2,bc2,ea2,ec2,rfl,hp2⟩:=hry.inv;rw [Nat.zero_mul,Nat.add_zero] at hcy
      by_cases hyk:y.kind=2
      ·by_cases hpick:(pickW L a 2).1=1
       ·have hwy:=wtN_step hsy
        have hsum:(x.els.map (wtN (d - 1))).sum=wtN (d - 1) y:=by rw [hy];simp
        have hyb:y.body=[]\/0 < d - 1/\2*(d - 1)<=n:=by
         rcases hsy.deep with h | h
         ·exact .inl h.1
         ·exact .inr ⟨h,by omega⟩
        have hyd:∀ z ∈ y.body,2*(d - 1 - 1)+2<=n:=fun z hz=>by
         have:=hyb.resolve_left (fun e=>by rw [e] at hz;cases hz)
         omega
        have CB2:=body_wr hN hsy.body hyb hp2.body hp2.broom hS (by omega);have hbl2:=wr_len (node:=ndW L n) (m:=wtN (d - 1 - 1)) y.body (fun z hz=>(nodes_len L n).1 (d - 1 - 1) False z (hsy.body z hz) (hyd z hz))
        have CO2:=fun (a':Nat) (w2:World) (h1:StAt w2 gs A c L a') (h2:Bar W w2 gs) (h3:a'+6+20*(y.els.map (wtN (d - 1 - 1))).sum<=1000000000)=>hO (d - 1) False y a' w2 S _ hsy (by omega) h1 (hry.bar h2 hS) hS h3 (by have hwo:wtNo y=1+y.text.size+y.name.size+y.key.size+wtX 6 y.x:=rfl;have hwp:=wtX_pos (d:=6) y.x;omega)
        have hol2:=(nodes_len L n).2 (d - 1) False y hsy (by omega)
        exact ot_elif hp h hS hy hk hyk hSb hcy hpick hsy.right hp2 hbl2 hol2 CB2 CO2 (by omega) (by omega)
       ·exact ot_alt hp h hS hy hk hyk hSb hcy hpick hel CE ha hz
      ·exact ot_els3 hp h hS he hk hl hyk hSb hcy hel CE (by rw [otW,hy];simp only;rw [if_neg (fun e=>hyk e.2)]) ha hz
     ·exact ot_els2 hp h hS he hk hl hel CE (by
       rw [otW]
       split
       ·next e=>exact absurd e he
       ·next y e=>exact absurd (by rw [e];rfl) hl
       ·rfl) ha hz
    ·exact ot_els1 hp h hS he hk hel CE (by
      rw [otW]
      split
      ·next e=>exact absurd e he
      ·next y e=>rw [if_neg (fun e=>hk e.1),e]
      ·rfl) ha hz
theorem write_wr {top:Prop} {l:List Nd} {a:Nat} {W:World} {S:Nat->Prop} {ba:OA_} {bc:Nat} (hl:∀ y ∈ l,SoundN 5 top y) (hx:RepNs W S ba l) (hroom:Room l.length bc 264) (h:StAt W gs A c L a) (hS:∀ b,S b->b≠gs) (ha:a+20*(l.map (wtN 5)).sum<=1000000000) (hz:100*(l.map (wtN 5)).sum<=1000000):
  Calls Tryz.prog 11 #[.pointer (some ⟨gs,0,none⟩),.slice ba l.length bc] W (WrPost gs A c L (flatP (wrW (ndW L 12) l a).1,(wrW (ndW L 12) l a).2) W):=by
 refine wr_all (m:=wtN 5) (fun y hy a2 w3 cs k1 k2 k3=>?_) (fun y hy=>(nodes_len L 12).1 5 top y (hl y hy) (by omega)) hx hroom h hS ha hz
 have hm:=sum_mem (wtN 5) hy
 exact (nodes_wr 12).1 5 top y a2 w3 S cs (hl y hy) (by omega) k1 k2 hS k3 (by omega)
end
end Go.Proofs.YtnblmhfgmehnnaaGreatDoor
