/- Several texts as one. -/
import Derived.Test.YtnblmhfgmehnnaaGreatDoorPeMv
import Derived.Test.YtnblmhfgmehnnaaGreatDoorPeAH
import Derived.Test.YtnblmhfgmehnnaaGreatDoorPeAM
set_option maxRecDepth 100000
set_option maxHeartbeats 8000000
namespace Go.Proofs.YtnblmhfgmehnnaaGreatDoor
open Go.RowKit Go.Lib
attribute [local go_sem ↓] Go.wp_at_zero Go.wp_at_succ
theorem nodes_nil {n:Nat} {out:List Nd} {m:Mk} (h:m.rest=[]):nodesF (n+1) out m=(⟨out,[],[]⟩,m):=by rw [nodesF,h]
theorem no_ok (gm:Nat) (A:OA_) (c:Nat) (toks:List Tok) (m0:Mk) (w:World) (h:MkAt w gm A c toks m0) (hv:ScalV w) (hb:m0.Big) (hfit:Fit toks) (htl:toks.length<=1000000) (hgl:Glob gm) {n:Nat} (hf:2*m0.rest.length+1<=n+1) (HB:BlOk gm A c toks n):Calls Tryz.prog 28 #[.pointer (some ⟨gm,0,none⟩)] w (NsPost gm A c toks (nodesF (n+1) [] m0).1 (nodesF (n+1) [] m0).2 w):=by
 obtain ⟨Y0,hY0⟩:∃ z,z=nodesF (n+1) [] m0:=⟨_,rfl⟩;rw [<-hY0];have HY0:=h_ hY0;have HM0:=h_ h;have HVW:=h_ hv;have HBG0:=h_ hb;have HBH:=h_ HB;have HFIT:=h_ hfit
 have hglob:∀ g,w.heap.size<=g->Glob g:=fun g hg=>hv.glob hg
 have HGL:=h_ hglob;have hgm:=h.blk.lt;have hs0:=hb.sum;have hs1:=hb.low;clear hY0 h hv hb HB hfit hglob
 go_enter Tryz.func28,Tryz.ntmps28
 go_wp2_with fail
 go_loopg [2] m0.rest.length (fun g x2 wr=>∃ (k:Nat) (m:Mk) (out:List Nd) (a:OA_) (c2:Nat),x2=.slice a out.length c2/\g=m.rest.length/\k<=n+1/\2*m.rest.length+1<=k/\out.length+m.rest.length<=1000000/\Hid m.Big/\Hid (Y0=nodesF k out m)/\Hid (OwnE eltN wr w.heap.size (fun b=>w.heap.size<=b) a c2 out)/\Hid (MkAt wr gm A c toks m)/\Hid (Bar w wr gm))
 case atStart=>exact ⟨n+1,m0,[],none,0,rfl,rfl,Nat.le_refl _,hf,by simp only [List.length_nil];omega,HBG0,HY0,h_ OwnE.nil,HM0,h_ (Bar.refl _ _)⟩
 case round=>
  obtain ⟨k,m,out,a,c2,rfl,rfl,hk0,hk1,hol,HBIG,HY,HOW,HM,HBAR⟩:=hrel;clear hf;obtain ⟨k,rfl⟩:∃ k2,k=k2+1:=⟨k - 1,by omega⟩;have km:=HM.out.blk.cell;have fm:=HM.out.blk.frozen;have lm:=HM.out.blk.lt;have hle:=HM.out.le;obtain ⟨ki,hki⟩:∃ z,z=toks.length - m.rest.length:=⟨_,rfl⟩;rw [<-hki] at km
  cases hr:m.rest with
  | nil=>
   have HE:=h_ (show Y0=(⟨out,[],[]⟩,m) from by rw [HY.out,nodes_nil hr])
   have hge:¬ (ki:Int) < toks.length:=by rw [hr,List.length_nil] at hki;omega
   clear hr hki;go_wp2_with fail
   go_region
   have gd:decide (ki < toks.length)=false:=decide_eq_false (by omega);go_wp2_with fail;go_ret3;rw [HE.out]
   exact ⟨a,c2,rfl,HOW.out.keep (Below.drew (Below.refl _ _)),HM.out.keep (Below.drew (Below.refl _ _)),HBAR.out.trans (Bar.of (Below.drew (Below.refl _ _)))⟩
  | cons tk ts=>
   have hlt:(ki:Int) < toks.length:=by rw [hr,List.length_cons] at hki hle;omega
   obtain ⟨tb,to_,rfl,htb, -,hti,hts,c0,c1,c2'⟩:=HM.out.next hr;rw [<-hki] at c0 c1 c2';have gd:decide (ki < toks.length)=true:=decide_eq_true (by omega)
   have hk0i:(0:Int)<=(ki:Int):=by omega
   have hl1:m.rest.length=ts.length+1:=by rw [hr];rfl
   have HKI:=h_ hki;have HRR:=h_ hr
   have lt_:tb < wr.heap.size:=by omega
   clear hr hki;go_wp2_with fail
   go_region
   go_wp2_with fail
   go_region
   have hb5:Below wr.heap.size wr ((wr.alloc (.cells #[.bool tk.act,.string (bs tk.s),.int .i64 tk.at_] 102)).drew.drew):=Below.drew (Below.drew (Below.new _ _));have hT:=((Blk.new wr 102 #[.bool tk.act,.string (bs tk.s),.int .i64 tk.at_]).drew).drew;have hM5:=HM.out.keep hb5;have hB5:=HBAR.out.trans (Bar.of (gc:=gm) hb5);have hO5:=HOW.out.keep hb5;obtain ⟨W5,e5⟩:∃ z,z=((wr.alloc (.cells #[.bool tk.act,.string (bs tk.s),.int .i64 tk.at_] 102)).drew.drew):=⟨_,rfl⟩;obtain ⟨n5,en5⟩:∃ z,z=wr.heap.size:=⟨_,rfl⟩;rw [<-e5] at hT hM5 hB5 hO5;rw [<-en5] at hT;rw [<-e5,<-en5]
   have hn5g:gm < n5:=by omega
   have hww:w.heap.size<=wr.heap.size:=HBAR.out.size
   have hkn:((toks.length - ts.length:Nat):Int)=(ki:Int)+1:=by have:=HKI.out;omega
   have HMB:=h_ (show MkAt (W5.setCell ⟨gm,1,none⟩ (.int .i64 ((ki:Int)+1))) gm (some ⟨tb,to_,none⟩) c toks ⟨ts,m.deep,m.bad⟩ from ⟨by rw [hkn];exact hM5.blk.set_ 1 (.int .i64 ((ki:Int)+1)),hts,hM5.toks.barM (Bar.set gm 1 _)⟩);have HT:=h_ (hT.far (p:=⟨gm,1,none⟩) (by show n5≠gm;omega) (.int .i64 ((ki:Int)+1)));have HBB:=h_ (hB5.trans (Bar.set gm 1 (.int .i64 ((ki:Int)+1))));have HOB:=h_ (hO5.bar (Bar.set gm 1 (.int .i64 ((ki:Int)+1))) hgm (fun b hb=>by omega));have kmb:=hM5.blk.cell;have fmb:=hM5.blk.frozen;have lmb:=hM5.blk.lt;have k5:=hT.cell;have f5:=hT.frozen;have l5:=hT.lt;rw [<-HKI.out] at kmb;have HTS:=h_ hts;have HKN:=h_ hkn;have HTI:=h_ hti;have hwk:IntKind.i64.wrap ((ki:Int)+1)=(ki:Int)+1:=wrap_fit (by omega) (by omega);clear hts hkn hb5 hT hM5 hB5 hO5 e5 en5 km fm lm c0 c1 c2' hti;go_upto_region 4 with fail;obtain ⟨W6,e6⟩:∃ z,z=W5.setCell ⟨gm,1,none⟩ (.int .i64 ((ki:Int)+1)):=⟨_,rfl⟩;rw [<-e6] at HMB HT HBB HOB;rw [<-e6];clear e6 kmb fmb lmb k5 f5 l5;have k5:=HT.out.cell;have f5:=HT.out.frozen;have l5:=HT.out.lt
   cases hact:tk.act with
   | false=>
    rw [hact] at k5;have htz:tk.s.length<=65536:=HFIT.out tk (List.mem_of_getElem? HTI.out)
    have hbz:(bs tk.s).size<=140737488351232:=by rw [bs_size];omega
    have hgr:=HBB.out.size
    have hrow:∀ b,Value.ownBlock (.slice a out.length c2)=some b->w.heap.size<=b:=fun b e=>(HOB.out.own b e).1
    obtain ⟨A3,c3,w3,hrun,ho3,hg3⟩:=own_snocN HOB.out (x:=.mk 0 (bs tk.s) Ex.zero ⟨#[]⟩ ⟨#[]⟩ [] []) (cs:=[.int .i64 0,.string (bs tk.s),.int .i64 0,.int .i64 0,.bool false,.int .i64 0,.string ⟨#[]⟩,.slice none 0 0,.slice none 0 0,.string ⟨#[]⟩,.slice none 0 0,.slice none 0 0,.string ⟨#[]⟩,.string ⟨#[]⟩,.slice none 0 0,.slice none 0 0]) (repN_leaf (k:=0) (x:=Ex.zero) (la:=none) (lc:=0) (ma:=none) (mc:=0) (sa:=none) (sc:=0) (aa:=none) (ac:=0) (by unfold i64ok;omega) hbz (repX_zero (S:=fun b=>w.heap.size<=b/\Value.ownBlock (.slice a out.length c2)≠some b)) empty_small empty_small) hgr (by omega);have HM3:=h_ (HMB.out.far (w':=w3) (fun b hb hlt=>(hg3.block b (by simp;omega) (fun e=>by have:=hrow b e.symm;omega)).trans ((Below.new W6 _).block b hlt)));have HB3:=h_ (HBB.out.grow hg3 hrow);obtain ⟨out2,ho2⟩:∃ z,z=out++[.mk 0 (bs tk.s) Ex.zero ⟨#[]⟩ ⟨#[]⟩ [] []]:=⟨_,rfl⟩
    have hoz:out2.length=out.length+1:=by rw [ho2,List.length_append];rfl
    have HE:=h_ (show Y0=nodesF k out2 ⟨ts,m.deep,m.bad⟩ from by
     have h9:=HY.out;rw [nodesF,HRR.out] at h9
     simp only at h9
     rw [if_pos hact,<-ho2] at h9
     exact h9)
    rw [<-ho2] at hrun ho3;have RUN:=h_ hrun;have HO3:=h_ ho3;have HOZ:=h_ hoz;have HBIG3:=h_ (show (⟨ts,m.deep,m.bad⟩:Mk).Big from ⟨HBIG.out.low,by have:=HBIG.out.sum;show m.deep+ts.length<=_;omega⟩);clear hrun ho3 hg3 hrow hoz ho2 hact
    go_wp2_with (at_builtin;refine wpList_append_run rfl (.tmp 41) (.tmp 45) 30 rfl RUN.out rfl rfl ?_)
    go_roundg ts.length
    case measure=>omega
    case rel=>exact ⟨k,⟨ts,m.deep,m.bad⟩,out2,A3,c3,rfl,rfl,by omega,by show 2*ts.length+1<=k;omega,by have:=HOZ.out;show out2.length+ts.length<=_;omega,HBIG3,HE,HO3,HM3,HB3⟩
   | true=>
    rw [hact] at k5;have htz:tk.s.length<=65536:=HFIT.out tk (List.mem_of_getElem? HTI.out);have CW:=h_ (fun (W:World)=>tword (bs tk.s) W (by rw [bs_size];omega))
    simp only at CW
    obtain ⟨nm,hnm⟩:∃ z,z=nameT tk.s:=⟨_,rfl⟩;obtain ⟨rs,hrs⟩:∃ z,z=bs (nameD tk.s):=⟨_,rfl⟩;rw [<-hnm,<-hrs] at CW;have HNM:=h_ hnm;have HRS:=h_ hrs;clear hnm hrs;go_wp2_with fail
    refine (CW.out _).mono ?_
    rintro e w7 ⟨rfl,hb7⟩;have HM7:=h_ (HMB.out.keep hb7);have HT7:=h_ (HT.out.keep hb7);have HB7:=h_ (HBB.out.trans (Bar.of hb7));have HO7:=h_ (HOB.out.keep hb7);clear hb7 k5 f5 l5;go_upto_region 8 with fail;have hYY:=HY.out;rw [nodesF,HRR.out] at hYY
    simp only at hYY
    rw [if_neg (by rw [hact];decide)] at hYY
    have hwl:wordL tk.s=nm.data.toList:=by rw [HNM.out];rfl
    rw [hwl] at hYY;have HSW:=h_ (HVW.out.bar HB7.out hgl);have hgr:=HB7.out.size
    have hrow:∀ b,Value.ownBlock (.slice a out.length c2)=some b->w.heap.size<=b:=fun b e=>(HO7.out.own b e).1
    have hrow2:∀ b,Value.ownBlock (.slice a out.length c2)=some b->b < w7.heap.size:=fun b e=>(HO7.out.own b e).2
    have HROW:=h_ hrow;have HROW2:=h_ hrow2;clear hrow hrow2
    by_cases hend:nm.data.toList=endW\/nm.data.toList=elseW
    ·rw [if_pos hend] at hYY
     have HE:=h_ hYY;clear hYY hwl
     rcases hend with he | he
     all_goals
      have g1:(nm.toList==[101,110,100])=decide (nm.data.toList=[101,110,100]):=word_eq nm _;have g2:(nm.toList==[101,108,115,101])=decide (nm.data.toList=[101,108,115,101]):=word_eq nm _;rw [he] at g1 g2
     ·rw [show decide (endW=[101,110,100])=true from rfl] at g1
      clear he g2;go_wp2_with fail;go_ret3;rw [HE.out]
      refine ⟨a,c2,?_,HO7.out,HM7.out,HB7.out⟩
      rw [HRS.out,HNM.out];rfl
     ·rw [show decide (elseW=[101,110,100])=false from rfl] at g1
      rw [show decide (elseW=[101,108,115,101])=true from rfl] at g2;clear he;go_wp2_with fail;go_ret3;rw [HE.out]
      refine ⟨a,c2,?_,HO7.out,HM7.out,HB7.out⟩
      rw [HRS.out,HNM.out];rfl
    ·rw [if_neg hend] at hYY
     have g1:(nm.toList==[101,110,100])=false:=by rw [word_eq];exact decide_eq_false (fun e=>hend (.inl e))
     have g2:(nm.toList==[101,108,115,101])=false:=by rw [word_eq];exact decide_eq_false (fun e=>hend (.inr e))
     clear hend
     by_cases hw4:nm.data.toList=ifW\/nm.data.toList=withW\/nm.data.toList=rangeW\/nm.data.toList=defineW
     ·rw [if_pos hw4] at hYY
      have hszr:rs.size<=1000000:=by rw [HRS.out,bs_size];have:=nameD_len tk.s;omega
      have hblk:=(nodes_le k).2 nm.data.toList (nameD tk.s) ⟨ts,m.deep,m.bad⟩;have CB:=HBH.out k (by omega) nm rs ⟨ts,m.deep,m.bad⟩ w7 hw4 hszr (by show 2*ts.length+2<=k;omega) HBIG.out.low (by have:=HBIG.out.sum;show m.deep+ts.length < _;omega) HM7.out HSW.out;rw [show rs.data.toList=nameD tk.s from by rw [HRS.out,bs_list]] at CB;obtain ⟨x,hx⟩:∃ z,z=(blockF k nm.data.toList (nameD tk.s) ⟨ts,m.deep,m.bad⟩).1:=⟨_,rfl⟩;obtain ⟨m2,hm2⟩:∃ z,z=(blockF k nm.data.toList (nameD tk.s) ⟨ts,m.deep,m.bad⟩).2:=⟨_,rfl⟩;rw [<-hx,<-hm2] at CB hYY;rw [<-hm2] at hblk;have CBH:=h_ CB;have hlen2:=hblk.len;have hlow2:=hblk.low;have hsum2:=hblk.sum
      simp only at hlen2 hlow2 hsum2
      have HBIG3:=h_ (show m2.Big from ⟨by have:=HBIG.out.low;omega,by have:=HBIG.out.sum;omega⟩);have HE:=h_ hYY;clear CB hblk hYY hlow2 hsum2 hx hm2 hszr hwl;obtain ⟨b3,hb3⟩:∃ z,z=decide (nm.data.toList=[105,102]):=⟨_,rfl⟩;obtain ⟨b4,hb4⟩:∃ z,z=decide (nm.data.toList=[119,105,116,104]):=⟨_,rfl⟩;obtain ⟨b5,hb5⟩:∃ z,z=decide (nm.data.toList=[114,97,110,103,101]):=⟨_,rfl⟩;obtain ⟨b6,hb6⟩:∃ z,z=decide (nm.data.toList=[100,101,102,105,110,101]):=⟨_,rfl⟩
      have g3:(nm.toList==[105,102])=b3:=by rw [word_eq,hb3]
      have g4:(nm.toList==[119,105,116,104])=b4:=by rw [word_eq,hb4]
      have g5:(nm.toList==[114,97,110,103,101])=b5:=by rw [word_eq,hb5]
      have g6:(nm.toList==[100,101,102,105,110,101])=b6:=by rw [word_eq,hb6]
      rcases hw4 with he | he | he | he
      all_goals
       rw [he] at hb3 hb4 hb5 hb6
       cases b3
       all_goals (first | exact absurd hb3 (by decide) | skip)
       cases b4
       all_goals (first | exact absurd hb4 (by decide) | skip)
       cases b5
       all_goals (first | exact absurd hb5 (by decide) | skip)
       cases b6
       all_goals (first | exact absurd hb6 (by decide) | skip)
       clear he hb3 hb4 hb5 hb6;go_wp2_with fail
       refine CBH.out.mono ?_
       rintro e w8 ⟨cs,rfl,hx8,hm8,hbar8⟩;obtain ⟨la,lc,ma,mc,sa,sc,aa,ac,ba,bc,ea,ec,rfl, -⟩:=hx8.inv;have hO8:=HO7.out.bar hbar8 hgm (fun b hb=>by omega);have hg8:=hbar8.size;obtain ⟨A3,c3,w3,hrun,ho3,hg3⟩:=own_snocN hO8 (x:=x) (cs:=[.int .i64 x.kind,.string x.text,.int .i64 x.x.kind,.int .i64 x.x.val.kind,.bool x.x.val.bool,.int .i64 x.x.val.int,.string x.x.val.str,.slice la x.x.val.list.length lc,.slice ma x.x.val.map.length mc,.string x.x.name,.slice sa x.x.steps.length sc,.slice aa x.x.args.length ac,.string x.key,.string x.name,.slice ba x.body.length bc,.slice ea x.els.length ec]) ((hx8.weak (fun b hb _=>⟨by omega,fun e=>by have:=HROW2.out b e;omega⟩))) (by omega) (by omega);have HM3:=h_ (MkAt.far hm8 (w':=w3) (fun b hb hlt=>(hg3.block b (by simp;omega) (fun e=>by have:=HROW.out b e.symm;omega)).trans ((Below.new w8 _).block b hlt)));have HB3:=h_ (Bar.grow (HB7.out.trans hbar8) hg3 HROW.out);obtain ⟨out2,ho2⟩:∃ z,z=out++[x]:=⟨_,rfl⟩
       have hoz:out2.length=out.length+1:=by rw [ho2,List.length_append];rfl
       have HE2:=HE.out;rw [<-ho2] at HE2;rw [<-ho2] at hrun ho3;have HEE:=h_ HE2;have RUN:=h_ hrun;have HO3:=h_ ho3;have HOZ:=h_ hoz;clear hrun ho3 hg3 hoz ho2 HE2 HE
       go_wp2_with (at_builtin;refine wpList_append_run rfl (.tmp 65) (.tmp 70) 30 rfl RUN.out rfl rfl ?_)
       go_roundg m2.rest.length
       case measure=>omega
       case rel=>exact ⟨k,m2,out2,A3,c3,rfl,rfl,by omega,by omega,by have:=HOZ.out;omega,HBIG3,HEE,HO3,HM3,HB3⟩
     ·rw [if_neg hw4] at hYY
      have g3:(nm.toList==[105,102])=false:=by rw [word_eq];exact decide_eq_false (fun e=>hw4 (.inl e))
      have g4:(nm.toList==[119,105,116,104])=false:=by rw [word_eq];exact decide_eq_false (fun e=>hw4 (.inr (.inl e)))
      have g5:(nm.toList==[114,97,110,103,101])=false:=by rw [word_eq];exact decide_eq_false (fun e=>hw4 (.inr (.inr (.inl e))))
      have g6:(nm.toList==[100,101,102,105,110,101])=false:=by rw [word_eq];exact decide_eq_false (fun e=>hw4 (.inr (.inr (.inr e))))
      have CS:=h_ (fun (W:World)=>tset (bs tk.s) W (by rw [bs_size];omega));have hsl:=setL_len tk.s;rw [bs_list] at CS;obtain ⟨v1,hv1⟩:∃ z,z=(setL tk.s).1:=⟨_,rfl⟩;obtain ⟨v2,hv2⟩:∃ z,z=(setL tk.s).2.1:=⟨_,rfl⟩;obtain ⟨v3,hv3⟩:∃ z,z=(setL tk.s).2.2:=⟨_,rfl⟩;rw [<-hv1,<-hv2,<-hv3] at CS hYY;rw [<-hv1,<-hv2] at hsl;have HYY:=h_ hYY;clear hv1 hv2 hv3 hw4 hwl hYY;have k5:=HT7.out.cell;have f5:=HT7.out.frozen;have l5:=HT7.out.lt;go_wp2_with fail
      refine (CS.out _).mono ?_
      rintro e w8 ⟨rfl,hb8⟩;have HM8:=h_ (HM7.out.keep hb8);have HT8:=h_ (HT7.out.keep hb8);have HB8:=h_ (HB7.out.trans (Bar.of hb8));have HO8:=h_ (HO7.out.keep hb8);have HSW8:=h_ (HSW.out.keep hb8);have hgr8:=hb8.size;clear hb8 k5 f5 l5
      cases v3 with
      | true=>
       have hYY:=HYY.out;rw [if_pos rfl] at hYY;have CP:=h_ (tmpipe gm (some ⟨tb,to_,none⟩) c toks ⟨ts,m.deep,m.bad⟩ (bs v2) w8 HM8.out (by rw [bs_size];omega) HSW8.out);rw [bs_list] at CP;have hle2:=mpipe_le ⟨ts,m.deep,m.bad⟩ v2;obtain ⟨x,hx⟩:∃ z,z=(mpipe ⟨ts,m.deep,m.bad⟩ v2).1:=⟨_,rfl⟩;obtain ⟨m2,hm2⟩:∃ z,z=(mpipe ⟨ts,m.deep,m.bad⟩ v2).2:=⟨_,rfl⟩;rw [<-hx,<-hm2] at CP hYY;rw [<-hm2] at hle2;have hlen2:=hle2.len;have hlow2:=hle2.low;have hsum2:=hle2.sum
       simp only at hlen2 hlow2 hsum2
       have HBIG3:=h_ (show m2.Big from ⟨by have:=HBIG.out.low;omega,by have:=HBIG.out.sum;omega⟩);have HE:=h_ hYY
       have hv1z:v1.size<=140737488351232:=by omega
       clear hle2 hYY HYY hlow2 hsum2 hx hm2 hsl;go_wp2_with fail
       refine CP.out.mono ?_
       rintro e w9 ⟨cs,rfl,hx9,hm9,hbar9⟩;obtain ⟨la,lc,ma,mc,sa,sc,aa,ac,rfl, -⟩:=hx9.1.inv;have hO9:=HO8.out.bar hbar9 hgm (fun b hb=>by omega);have hg9:=hbar9.size;obtain ⟨A3,c3,w3,hrun,ho3,hg3⟩:=own_snocN hO9 (x:=(.mk 5 ⟨#[]⟩ x ⟨#[]⟩ v1 [] [])) (cs:=[.int .i64 5,.string ⟨#[]⟩,.int .i64 x.kind,.int .i64 x.val.kind,.bool x.val.bool,.int .i64 x.val.int,.string x.val.str,.slice la x.val.list.length lc,.slice ma x.val.map.length mc,.string x.name,.slice sa x.steps.length sc,.slice aa x.args.length ac,.string ⟨#[]⟩,.string v1,.slice none 0 0,.slice none 0 0]) ((repN_leaf (k:=5) (by unfold i64ok;omega) empty_small (hx9.1.weak (fun b hb _=>⟨by omega,fun e=>by have:=HROW2.out b e;omega⟩)) empty_small hv1z)) (by omega) (by omega);have HM3:=h_ (MkAt.far hm9 (w':=w3) (fun b hb hlt=>(hg3.block b (by simp;omega) (fun e=>by have:=HROW.out b e.symm;omega)).trans ((Below.new w9 _).block b hlt)));have HB3:=h_ (Bar.grow (HB8.out.trans hbar9) hg3 HROW.out);obtain ⟨out2,ho2⟩:∃ z,z=out++[(.mk 5 ⟨#[]⟩ x ⟨#[]⟩ v1 [] [])]:=⟨_,rfl⟩
       have hoz:out2.length=out.length+1:=by rw [ho2,List.length_append];rfl
       have HE2:=HE.out;rw [<-ho2] at HE2;rw [<-ho2] at hrun ho3;have HEE:=h_ HE2;have RUN:=h_ hrun;have HO3:=h_ ho3;have HOZ:=h_ hoz;clear hrun ho3 hg3 hoz ho2 HE2 HE
       go_wp2_with (at_builtin;refine wpList_append_run rfl (.tmp 80) (.tmp 86) 30 rfl RUN.out rfl rfl ?_)
       go_roundg m2.rest.length
       case measure=>omega
       case rel=>exact ⟨k,m2,out2,A3,c3,rfl,rfl,by omega,by omega,by have:=HOZ.out;omega,HBIG3,HEE,HO3,HM3,HB3⟩
      | false=>
       have hYY:=HYY.out;rw [if_neg (by decide)] at hYY;have CP:=h_ (tmpipe gm (some ⟨tb,to_,none⟩) c toks ⟨ts,m.deep,m.bad⟩ (bs tk.s) w8 HM8.out (by rw [bs_size];omega) HSW8.out);rw [bs_list] at CP;have hle2:=mpipe_le ⟨ts,m.deep,m.bad⟩ tk.s;obtain ⟨x,hx⟩:∃ z,z=(mpipe ⟨ts,m.deep,m.bad⟩ tk.s).1:=⟨_,rfl⟩;obtain ⟨m2,hm2⟩:∃ z,z=(mpipe ⟨ts,m.deep,m.bad⟩ tk.s).2:=⟨_,rfl⟩;rw [<-hx,<-hm2] at CP hYY;rw [<-hm2] at hle2;have hlen2:=hle2.len;have hlow2:=hle2.low;have hsum2:=hle2.sum
       simp only at hlen2 hlow2 hsum2
       have HBIG3:=h_ (show m2.Big from ⟨by have:=HBIG.out.low;omega,by have:=HBIG.out.sum;omega⟩);have HE:=h_ hYY;clear hle2 hYY HYY hlow2 hsum2 hx hm2 hsl;have k5:=HT8.out.cell;have f5:=HT8.out.frozen;have l5:=HT8.out.lt;go_wp2_with fail
       refine CP.out.mono ?_
       rintro e w9 ⟨cs,rfl,hx9,hm9,hbar9⟩;clear k5 f5 l5;obtain ⟨la,lc,ma,mc,sa,sc,aa,ac,rfl, -⟩:=hx9.1.inv;have hO9:=HO8.out.bar hbar9 hgm (fun b hb=>by omega);have hg9:=hbar9.size;obtain ⟨A3,c3,w3,hrun,ho3,hg3⟩:=own_snocN hO9 (x:=(.mk 1 ⟨#[]⟩ x ⟨#[]⟩ ⟨#[]⟩ [] [])) (cs:=[.int .i64 1,.string ⟨#[]⟩,.int .i64 x.kind,.int .i64 x.val.kind,.bool x.val.bool,.int .i64 x.val.int,.string x.val.str,.slice la x.val.list.length lc,.slice ma x.val.map.length mc,.string x.name,.slice sa x.steps.length sc,.slice aa x.args.length ac,.string ⟨#[]⟩,.string ⟨#[]⟩,.slice none 0 0,.slice none 0 0]) ((repN_leaf (k:=1) (by unfold i64ok;omega) empty_small (hx9.1.weak (fun b hb _=>⟨by omega,fun e=>by have:=HROW2.out b e;omega⟩)) empty_small empty_small)) (by omega) (by omega);have HM3:=h_ (MkAt.far hm9 (w':=w3) (fun b hb hlt=>(hg3.block b (by simp;omega) (fun e=>by have:=HROW.out b e.symm;omega)).trans ((Below.new w9 _).block b hlt)));have HB3:=h_ (Bar.grow (HB8.out.trans hbar9) hg3 HROW.out);obtain ⟨out2,ho2⟩:∃ z,z=out++[(.mk 1 ⟨#[]⟩ x ⟨#[]⟩ ⟨#[]⟩ [] [])]:=⟨_,rfl⟩
       have hoz:out2.length=out.length+1:=by rw [ho2,List.length_append];rfl
       have HE2:=HE.out;rw [<-ho2] at HE2;rw [<-ho2] at hrun ho3;have HEE:=h_ HE2;have RUN:=h_ hrun;have HO3:=h_ ho3;have HOZ:=h_ hoz;clear hrun ho3 hg3 hoz ho2 HE2 HE
       go_wp2_with (at_builtin;refine wpList_append_run rfl (.tmp 88) (.tmp 94) 30 rfl RUN.out rfl rfl ?_)
       go_roundg m2.rest.length
       case measure=>omega
       case rel=>exact ⟨k,m2,out2,A3,c3,rfl,rfl,by omega,by omega,by have:=HOZ.out;omega,HBIG3,HEE,HO3,HM3,HB3⟩
end Go.Proofs.YtnblmhfgmehnnaaGreatDoor
