/- Several texts as one. -/
import Derived.Test.YtnblmhfgmehnnaaGreatDoorPeFo
import Derived.Test.YtnblmhfgmehnnaaGreatDoorPeMv
import Derived.Test.YtnblmhfgmehnnaaGreatDoorPeAF
set_option maxRecDepth 100000
set_option maxHeartbeats 8000000
namespace Go.Proofs.YtnblmhfgmehnnaaGreatDoor
open Go.RowKit Go.Lib
attribute [local go_sem ↓] Go.wp_at_zero Go.wp_at_succ
theorem plain_args {r:Rd} {q:(Ex × Bool) × Rd} (h:plainOp r=some q):q.1.1.args=[]:=by
 unfold plainOp at h
 repeat' split at h
 all_goals first | (simp only [Option.some.injEq] at h;subst h;rfl) | cases h
theorem args_all (n:Nat):(∀ r:Rd,(operandF n r).1.1.args.length+(operandF n r).2.s.length<=r.s.length)/\(∀ r:Rd,(commandF n r).1.args.length+(commandF n r).2.s.length<=r.s.length)/\(∀ (x:Ex) (r:Rd),(argsF n x r).1.args.length+(argsF n x r).2.s.length<=x.args.length+r.s.length)/\(∀ r:Rd,(pipeF n r).1.args.length+(pipeF n r).2.s.length<=r.s.length)/\(∀ (x:Ex) (r:Rd),(barsF n x r).1.args.length+(barsF n x r).2.s.length<=x.args.length+r.s.length):=by
 induction n with
 | zero=>exact ⟨fun r=>by rw [operandF];show 0+r.s.length<=_;omega,fun r=>by rw [commandF];show 0+r.s.length<=_;omega,fun x r=>by rw [argsF];exact Nat.le_refl _,fun r=>by rw [pipeF];show 0+r.s.length<=_;omega,fun x r=>by rw [barsF];exact Nat.le_refl _⟩
 | succ n ih=>
  obtain ⟨ho,hc,ha,hp,hb⟩:=ih
  have push:∀ (y x:Ex),(y.push x).args.length=y.args.length+1:=fun y x=>by show (y.args++[x]).length=_;rw [List.length_append];rfl
  refine ⟨fun r=>?_,fun r=>?_,fun x r=>?_,fun r=>?_,fun x r=>?_⟩
  ·rw [operandF]
   cases hpl:plainOp r with
   | some q=>
    simp only
    rw [plain_args hpl]
    have:=(plain_le hpl).1.len
    simp only [List.length_nil];omega
   | none=>
    obtain ⟨l,hs⟩:=plain_none hpl;have hk:=skip_len r.s;rw [hs,List.length_cons] at hk
    simp only
    split
    ·show 0+0<=_;omega
    ·rw [hs,List.drop_succ_cons,List.drop_zero]
     have h1:=hp ⟨l,r.deep+1,r.bad⟩;have hk2:=skip_len (pipeF n ⟨l,r.deep+1,r.bad⟩).2.s
     simp only at h1
     split
     ·next q hq=>
      rw [hq,List.length_cons] at hk2
      show (pipeF n ⟨l,r.deep+1,r.bad⟩).1.args.length+q.length<=_
      omega
     ·show 0+0<=_;omega
  ·rw [commandF]
   have h1:=ho r
   split
   ·exact h1
   ·split
    ·show 0+0<=_;omega
    ·have h2:=ha (Ex.call (nameT (operandF n r).2.s) []) ((operandF n r).2.go (nameD (operandF n r).2.s))
     have h3:=nameD_le (operandF n r).2.s;have h4:((operandF n r).2.go (nameD (operandF n r).2.s)).s.length=(nameD (operandF n r).2.s).length:=rfl;have h5:(Ex.call (nameT (operandF n r).2.s) []).args.length=0:=rfl
     omega
  ·rw [argsF]
   have h1:=ho r;have h0:=(le_all n).1 r
   split
   ·next hb=>
    have h2:=ha (x.push (operandF n r).1.1) (operandF n r).2;rw [push] at h2
    have:=h0.2 hb
    omega
   ·split
    ·simp only;omega
    ·next hk=>
     have h2:=ha (x.push (Ex.call (nameT (operandF n r).2.s) [])) ((operandF n r).2.go (nameD (operandF n r).2.s));have h3:=nameD_len (operandF n r).2.s;have h4:((operandF n r).2.go (nameD (operandF n r).2.s)).s.length=(nameD (operandF n r).2.s).length:=rfl;rw [push] at h2
     omega
  ·rw [pipeF]
   have h1:=hc r;have h2:=hb (commandF n r).1 (commandF n r).2
   omega
  ·rw [barsF]
   have hk:=skip_len r.s
   split
   ·next l hl=>
    rw [hl,List.length_cons] at hk;have h1:=hc (r.go l);have h3:(r.go l).s.length=l.length:=rfl
    simp only
    split
    ·show 0+0<=_;omega
    ·have h2:=hb ((commandF n (r.go l)).1.push x) (commandF n (r.go l)).2
     rw [push] at h2
     omega
   ·show x.args.length+(skipB r.s).length<=_
    omega
theorem bars_stop {m:Nat} {x:Ex} {r:Rd} (h:∀ l,skipB r.s≠124::l):barsF (m+1) x r=(x,r.go (skipB r.s)):=by
 rw [barsF]
 split
 ·next l hl=>exact absurd hl (h l)
 ·rfl
theorem bars_go {m:Nat} {x:Ex} {r:Rd} {l:LB_} (h:skipB r.s=124::l):barsF (m+1) x r=if (commandF m (r.go l)).1.kind≠3/\(commandF m (r.go l)).2.bad=0 then (Ex.zero,(commandF m (r.go l)).2.fail 20) else barsF m ((commandF m (r.go l)).1.push x) (commandF m (r.go l)).2:=by
 rw [barsF,h]
 rfl
theorem pi_all (gc:Nat) (r:Rd) (w:World) (h:RdAt w gc r) (hv:ScalV w) (hg:Glob gc) (hb:r.Big) {n0:Nat} (hf:4*r.s.length+2<=n0) (HCO:∀ m,m<=n0->∀ (r:Rd) (W:World),4*r.s.length+2<=m->r.Big->RdAt W gc r->ScalV W->Calls Tryz.prog 83 #[.pointer (some ⟨gc,0,none⟩)] W (ExPost gc (commandF m r).1 (commandF m r).2 W)):Calls Tryz.prog 60 #[.pointer (some ⟨gc,0,none⟩)] w (ExPost gc (pipeF (n0+1) r).1 (pipeF (n0+1) r).2 w):=by
 obtain ⟨⟨x1,r1⟩,hq1⟩:∃ z,z=commandF n0 r:=⟨_,rfl⟩;obtain ⟨Y0,hY0⟩:∃ z,z=pipeF (n0+1) r:=⟨_,rfl⟩
 have hY1:Y0=barsF n0 x1 r1:=by rw [hY0,pipeF,<-hq1]
 have hle1:=(le_all n0).2.1 r;rw [<-hq1] at hle1
 simp only at hle1
 have hl1:=hle1.len;have HC1:=h_ (fun W (hW:RdAt W gc r) (hvW:ScalV W)=>show Calls Tryz.prog 83 #[.pointer (some ⟨gc,0,none⟩)] W (ExPost gc x1 r1 W) from by have h9:=HCO n0 (Nat.le_refl _) r W hf hb hW hvW;rw [<-hq1] at h9;exact h9);have HBIG1:=h_ (hb.le hle1);rw [<-hY0];have HY1:=h_ hY1;have HCOH:=h_ HCO;have HVW:=h_ hv
 have hf1:4*r1.s.length+2<=n0:=by omega
 clear hY0 hY1 hq1 hle1 hl1 HCO hf hb;have hgc:=Blk.lt h;have hb0:Below w.heap.size w (w.alloc (.cells #[.int .i64 0,.int .i64 0,.bool false,.int .i64 0,.string ⟨#[]⟩,.slice none 0 0,.slice none 0 0,.string ⟨#[]⟩,.slice none 0 0,.slice none 0 0] 50)):=Below.new _ _;have H0:=h_ (RdAt.keep h hb0);have HX0:=h_ (show Blk (w.alloc (.cells #[.int .i64 0,.int .i64 0,.bool false,.int .i64 0,.string ⟨#[]⟩,.slice none 0 0,.slice none 0 0,.string ⟨#[]⟩,.slice none 0 0,.slice none 0 0] 50)) w.heap.size 50 #[.int .i64 0,.int .i64 0,.bool false,.int .i64 0,.string ⟨#[]⟩,.slice none 0 0,.slice none 0 0,.string ⟨#[]⟩,.slice none 0 0,.slice none 0 0] from Blk.new _ _ _);have HB0:=h_ (Bar.of (gc:=gc) hb0);have HV0:=h_ (hv.keep hb0);clear h;obtain ⟨W0,e0⟩:∃ z,z=w.alloc (.cells #[.int .i64 0,.int .i64 0,.bool false,.int .i64 0,.string ⟨#[]⟩,.slice none 0 0,.slice none 0 0,.string ⟨#[]⟩,.slice none 0 0,.slice none 0 0] 50):=⟨_,rfl⟩;obtain ⟨n2,e2⟩:∃ z,z=w.heap.size:=⟨_,rfl⟩;rw [<-e0] at H0 HX0 HB0 HV0;rw [<-e2] at HX0
 have hn2g:n2≠gc:=by omega
 have E0:=h_ e0;have E2:=h_ e2;have HN2:=h_ (show w.heap.size<=n2 from Nat.le_of_eq e2.symm);clear e0 e2 hb0
 go_enter Tryz.func60,Tryz.ntmps60
 refine wp_seq_cut (fun K0 hK0=>?_)
 go_wp2_with fail
 refine hK0.out _ _ ?_
 rw [<-E0.out,<-E2.out];clear E0 hK0 K0;go_wp2_with fail
 refine (HC1.out _ H0.out HV0.out).mono ?_
 rintro e w1 ⟨cs,rfl,hx1,hrd1,hbar1⟩;obtain ⟨la,lc,ma,mc,sa,sc,aa,ac,rfl,hpx⟩:=hx1.inv;have hba:=Below.new w1 (.cells (aX x1 la lc ma mc sa sc aa ac) 50);have HX1:=h_ ((hbar1.blk HX0.out hn2g).keep hba);have HB1:=h_ ((HB0.out.trans hbar1).trans (Bar.of hba));have HR1:=h_ (hrd1.keep hba);have hl2:n2 < W0.heap.size:=HX0.out.lt;have HXX:=h_ ((hpx.mono (S':=fun b=>n2+1<=b/\b≠w1.heap.size) (fun b hb hlt=>⟨by omega,by omega⟩) (fun _ _ _=>rfl)).keep hba);have HY3:=h_ (show Blk (w1.alloc (.cells (aX x1 la lc ma mc sa sc aa ac) 50)) w1.heap.size 50 (aX x1 la lc ma mc sa sc aa ac) from Blk.new _ _ _);have hl0:gc < w1.heap.size:=Blk.lt hrd1;have hl3:n2 < w1.heap.size:=Nat.lt_of_lt_of_le HX0.out.lt hbar1.size;clear hba hrd1 hbar1 hx1 hpx hl2;unfold aX at *;go_upto_region 2 with fail;obtain ⟨WA,eA⟩:∃ z,z=w1.alloc (.cells #[.int .i64 x1.kind,.int .i64 x1.val.kind,.bool x1.val.bool,.int .i64 x1.val.int,.string x1.val.str,.slice la x1.val.list.length lc,.slice ma x1.val.map.length mc,.string x1.name,.slice sa x1.steps.length sc,.slice aa x1.args.length ac] 50):=⟨_,rfl⟩;obtain ⟨n3,e3⟩:∃ z,z=w1.heap.size:=⟨_,rfl⟩;rw [<-eA] at HX1 HB1 HR1 HY3 HXX;rw [<-e3] at HY3 hl0 hl3 HXX;rw [<-eA,<-e3]
 have hn3g:n3≠gc:=by omega
 have hn32:n3≠n2:=by omega
 clear eA e3;have hwn:w.heap.size<=n2:=HN2.out;go_wp2_with fail
 refine (tskip gc r1 _ HR1.out).mono ?_
 rintro e w4 ⟨rfl,hrd4,hbar4⟩;have HX4:=h_ (hbar4.blk HX1.out hn2g);have HY4:=h_ (hbar4.blk HY3.out hn3g);have HB4:=h_ (HB1.out.trans hbar4);have HR4:=h_ hrd4;have HXP:=h_ (HXX.out.mono (S':=fun b=>n2+1<=b/\b≠n3) (fun _ hb _=>hb) (fun b hb hlt=>hbar4.block b hlt (by have:=HX0.out.lt;have:=hb.1;omega)));clear hrd4 hbar4;go_wp2_with fail
 go_loopg [] r1.s.length (fun g wr=>∃ (m:Nat) (r:Rd) (x:Ex) (la:OA_) (lc:Nat) (ma:OA_) (mc:Nat) (sa:OA_) (sc:Nat) (aa:OA_) (ac:Nat),g=r.s.length/\m<=n0/\4*r.s.length+2<=m/\Hid r.Big/\Hid (Y0=barsF m x r)/\Hid (PartsO wr (fun b=>n2+1<=b/\b≠n3) la lc ma mc sa sc aa ac x)/\Hid (Blk wr n3 50 #[.int .i64 x.kind,.int .i64 x.val.kind,.bool x.val.bool,.int .i64 x.val.int,.string x.val.str,.slice la x.val.list.length lc,.slice ma x.val.map.length mc,.string x.name,.slice sa x.steps.length sc,.slice aa x.args.length ac])/\Hid (Blk wr n2 50 #[.int .i64 0,.int .i64 0,.bool false,.int .i64 0,.string ⟨#[]⟩,.slice none 0 0,.slice none 0 0,.string ⟨#[]⟩,.slice none 0 0,.slice none 0 0])/\Hid (RdAt wr gc (r.go (skipB r.s)))/\Hid (Bar w wr gc))
 case atStart=>exact ⟨n0,r1,x1,la,lc,ma,mc,sa,sc,aa,ac,rfl,Nat.le_refl _,hf1,HBIG1,HY1,HXP,HY4,HX4,HR4,HB4⟩
 case round=>
  obtain ⟨m,r,x,la2,lc2,ma2,mc2,sa2,sc2,aa2,ac2,rfl,hm0,hm,HBIG,HY,HXX2,HZ,HX,HR,HB⟩:=hrel;clear hf1 HX1 HR1 HB1 HX4 HY4 HB4 HR4 HXP HXX HY3 HBIG1 HY1 HC1 HX0 H0 HV0 HB0;obtain ⟨m,rfl⟩:∃ m2,m=m2+1:=⟨m - 1,by omega⟩;obtain ⟨s9,hs9,hb9⟩:=HR.out.open
  simp only [Rd.go] at hs9 hb9
  have H9:=h_ hb9;have k0:=hb9.cell;have f0:=hb9.frozen;have l0:=hb9.lt;clear hb9
  by_cases h124:∃ l,skipB r.s=124::l
  ·obtain ⟨l,hs⟩:=h124
   have hk:=skip_len r.s;rw [hs,List.length_cons] at hk;rw [hs] at hs9
   have hp9:Lib.hasPrefix s9.data.toList [124]=true:=by rw [<-hs9,prefix_one];rfl
   obtain ⟨h09,hs09,hsz9,hem9⟩:=byte_head hs9
   have hz9:(1:Int)<=s9.size:=by omega
   have HT9:=h_ (tail1 hs9);have hbl:(r.go l).Big:=HBIG.out.le (Rd.Le.go (by omega));obtain ⟨⟨y,r2⟩,hq2⟩:∃ z,z=commandF m (r.go l):=⟨_,rfl⟩;have hle2:=(le_all m).2.1 (r.go l);have har2:=(args_all m).2.1 (r.go l);have hYY:=HY.out;rw [bars_go hs,<-hq2] at hYY;rw [<-hq2] at hle2 har2
   simp only at hYY hle2 har2
   have HRD:=h_ (show RdAt (wr.setCell ⟨gc,0,none⟩ (.string (s9.extract 1 s9.size))) gc (r.go l) from RdAt.of (r:=r.go l) (H9.out.s0 _) (by rw [HT9.out];rfl) rfl rfl);have hl9:(r.go l).s.length=l.length:=rfl;have HC2:=h_ (show Calls Tryz.prog 83 #[.pointer (some ⟨gc,0,none⟩)] (wr.setCell ⟨gc,0,none⟩ (.string (s9.extract 1 s9.size))) (ExPost gc y r2 (wr.setCell ⟨gc,0,none⟩ (.string (s9.extract 1 s9.size)))) from by have h9:=HCOH.out m (by omega) (r.go l) _ (by omega) hbl HRD.out ((HVW.out.bar HB.out hg).bar (Bar.set gc 0 _) hg);rw [<-hq2] at h9;exact h9);have HBIG2:=h_ (hbl.le hle2);have HYY:=h_ hYY;have hl92:=hle2.len
   have hya:y.args.length<=1000000:=by have:=HBIG.out.len;omega
   clear hq2 hle2 hYY hbl hs9 hs hem9 hsz9 hs09 HY;go_wp2_with fail
   refine (tprefix s9 ⟨#[124]⟩ _).mono ?_
   rintro e w5 ⟨rfl,rfl⟩;rw [show (⟨#[124]⟩:ByteArray).data.toList=[124] from rfl,hp9];clear hp9;go_wp2_with fail
   refine HC2.out.mono ?_
   rintro e w2 ⟨cs,rfl,hy,hrd2,hbar2⟩;obtain ⟨lb,ld,mb,md,sb,sd,ab,ad,rfl,hyp⟩:=hy.inv
   have hws:(wr.setCell ⟨gc,0,none⟩ (.string (s9.extract 1 s9.size))).heap.size=wr.heap.size:=by simp [World.setCell]
   have hsz2:wr.heap.size<=w2.heap.size:=hws ▸ hbar2.size;have hb2:Bar wr w2 gc:=(Bar.set gc 0 _).trans hbar2;have hba:=Below.new w2 (.cells (aX y lb ld mb md sb sd ab ad) 50);have hl30:n3 < wr.heap.size:=HZ.out.lt;have HX2:=h_ ((hb2.blk HX.out hn2g).keep hba);have HZ2:=h_ ((hb2.blk HZ.out hn3g).keep hba);have HB2:=h_ ((HB.out.trans hb2).trans (Bar.of hba));have HR2:=h_ (hrd2.keep hba);have HXC:=h_ ((HXX2.out.rep.mono (w':=w2) (S':=fun b=>(n2+1<=b/\b≠n3)/\b < wr.heap.size) (fun b hb hlt=>⟨hb,hlt⟩) (fun b o hb hlt=>hb2.cell hlt (by have:=hb.1;omega))).keep hba);have HYP:=h_ ((hyp.mono (S':=fun b=>n2+1<=b/\b≠n3/\b < w2.heap.size) (fun b hb hlt=>⟨by omega,by omega,hlt⟩) (fun _ _ _=>rfl)).keep hba);have HOWN:=h_ (show ∀ g,Value.ownBlock (.slice ab y.args.length ad)=some g->wr.heap.size<=g from fun g hg=>by have h9:=hyp.inS g hg;rw [hws] at h9;exact h9);have HW1:=h_ (show Blk (w2.alloc (.cells (aX y lb ld mb md sb sd ab ad) 50)) w2.heap.size 50 (aX y lb ld mb md sb sd ab ad) from Blk.new _ _ _);have hl0:gc < w2.heap.size:=Blk.lt hrd2;have HSZ2:=h_ hsz2;clear hws hb2 hba hrd2 hbar2 hy hyp k0 f0 l0;unfold aX at *;go_upto_region 7 with fail;obtain ⟨WA,eA⟩:∃ z,z=w2.alloc (.cells #[.int .i64 y.kind,.int .i64 y.val.kind,.bool y.val.bool,.int .i64 y.val.int,.string y.val.str,.slice lb y.val.list.length ld,.slice mb y.val.map.length md,.string y.name,.slice sb y.steps.length sd,.slice ab y.args.length ad] 50):=⟨_,rfl⟩;obtain ⟨n4,e4⟩:∃ z,z=w2.heap.size:=⟨_,rfl⟩;rw [<-eA] at HX2 HB2 HR2 HZ2 HXC HYP HW1;rw [<-e4] at HW1 HYP HSZ2 hl0 hsz2;rw [<-eA,<-e4]
   have hn4g:n4≠gc:=by omega
   have hn43:n4≠n3:=by omega
   have hn42:n4≠n2:=by omega
   clear eA e4;have HRB:=h_ (show Blk WA gc 112 #[.string (bs r2.s),.int .i64 r2.deep,.int .i64 r2.bad] from HR2.out)
   by_cases hbad:y.kind≠3/\r2.bad=0
   ·have HE:=h_ (show Y0=(Ex.zero,r2.fail 20) from by have h9:=HYY.out;rw [if_pos hbad] at h9;exact h9)
    have g1:(y.kind !=3)=true:=bne_iff_ne.2 hbad.1
    have g2:(r2.bad==0)=true:=by rw [hbad.2];rfl
    clear HYY hbad;have k4:=HW1.out.cell;have f4:=HW1.out.frozen;have l4:=HW1.out.lt;have k0:=HRB.out.cell;have f0:=HRB.out.frozen;have l0:=HRB.out.lt;go_wp2_with fail
    refine (tfail gc r2 20 _ HR2.out).mono ?_
    rintro e w8 ⟨rfl,hrd8,hbar8⟩;have HX8:=h_ (hbar8.blk HX2.out hn2g);have HR8:=h_ hrd8;have HB8:=h_ (HB2.out.trans hbar8);clear hrd8 hbar8;clear k4 f4 l4 k0 f0 l0;have k2:=HX8.out.cell;have f2:=HX8.out.frozen;have l2:=HX8.out.lt;go_wp2_with fail
    refine ret_cell (p:=2) (g:=n2) rfl rfl (blk_set10 (w:=w8) HX8.out) Tryz.underlying50 (by kernel_rfl) rfl ?_
    rw [HE.out]
    exact ⟨_,rfl,repO_zero,HR8.out.bar (bar_set10 _ _ _ _ _ _ _ _ _ _ _ _) (Ne.symm hn2g),Bar.join HB8.out (bar_set10 _ _ _ _ _ _ _ _ _ _ _ _) HN2.out⟩
   ·have HE:=h_ (show Y0=barsF m (y.push x) r2 from by have h9:=HYY.out;rw [if_neg hbad] at h9;exact h9)
    clear HYY
    have ht:(y.kind !=3)=false\/((y.kind !=3)=true/\(r2.bad==0)=false):=by
     by_cases h1:y.kind=3
     ·exact .inl (by rw [h1];rfl)
     ·exact .inr ⟨bne_iff_ne.2 h1,bf_ (fun h2=>hbad ⟨h1,h2⟩)⟩
    clear hbad
    rcases ht with g1 | ⟨g1,g2⟩
    ·have k4:=HW1.out.cell;have f4:=HW1.out.frozen;have l4:=HW1.out.lt;have k0:=HRB.out.cell;have f0:=HRB.out.frozen;have l0:=HRB.out.lt
     go_upto_region 9 with fail;clear k0 f0 l0;have hpc:=push_run HYP.out HXC.out (Sx:=fun b=>(n2+1<=b/\b≠n3)/\b < wr.heap.size) (fun b hb _=>⟨⟨hb.1.1,hb.1.2,by have:=HSZ2.out;have:=hb.2;omega⟩,fun e=>by have:=HOWN.out b e;have:=hb.2;omega⟩) (by omega);obtain ⟨A2,c2,w3,hrun,hpp,hg3⟩:=hpc
     have hrow:∀ b,Value.ownBlock (.slice ab y.args.length ad)=some b->wr.heap.size<=b/\b < n4:=fun b e=>⟨HOWN.out b e,(HYP.out.inS b e).2.2⟩
     have HB3:=h_ (HB2.out.grow hg3 (fun b e=>by have:=hrow b e;omega));have HR3:=h_ (HR2.out.grow hg3 (fun e=>by have:=hrow gc e;omega));have HX3:=h_ (HX2.out.grow hg3 (fun e=>by have:=hrow n2 e;omega));have HZ3:=h_ (HZ2.out.grow hg3 (fun e=>by have:=hrow n3 e;omega));have HW3:=h_ (HW1.out.grow hg3 (fun e=>by have:=hrow n4 e;omega));have RUN:=h_ hrun;have HPP:=h_ hpp;have HLW:=h_ HW1.out.lt;clear hrun hpp hg3 hrow;have k3:=HZ2.out.cell;have f3:=HZ2.out.frozen;have l3:=HZ2.out.lt;have k4b:=HW3.out.cell;have f4b:=HW3.out.frozen;have l4b:=HW3.out.lt;have k3b:=HZ3.out.cell;have f3b:=HZ3.out.frozen;have l3b:=HZ3.out.lt;go_upto_region 10 with (at_builtin;refine wpList_append_run rfl (.tmp 39) (.tmp 41) 48 rfl RUN.out rfl rfl ?_);clear k3 f3 l3 k4 f4 l4;obtain ⟨WD,eD⟩:∃ z,z=w3.setCell ⟨n4,9,none⟩ (.slice A2 (y.push x).args.length c2):=⟨_,rfl⟩
     have hD:Bar w3 WD n4:=by rw [eD];exact Bar.set n4 9 _
     obtain ⟨WC,eC⟩:∃ z,z=set10 WD n3 (.int .i64 y.kind) (.int .i64 y.val.kind) (.bool y.val.bool) (.int .i64 y.val.int) (.string y.val.str) (.slice lb y.val.list.length ld) (.slice mb y.val.map.length md) (.string y.name) (.slice sb y.steps.length sd) (.slice A2 (y.push x).args.length c2):=⟨_,rfl⟩
     have hC:Bar WD WC n3:=by rw [eC];exact (bar_set10 _ _ _ _ _ _ _ _ _ _ _ _)
     have hZC:Blk WC n3 50 #[.int .i64 y.kind,.int .i64 y.val.kind,.bool y.val.bool,.int .i64 y.val.int,.string y.val.str,.slice lb y.val.list.length ld,.slice mb y.val.map.length md,.string y.name,.slice sb y.steps.length sd,.slice A2 (y.push x).args.length c2]:=by rw [eC];exact blk_set10 (hD.blk HZ3.out (Ne.symm hn43))
     have hHX:=hC.blk (hD.blk HX3.out (Ne.symm hn42)) (Ne.symm hn32);have hHR:RdAt WC gc r2:=(RdAt.bar HR3.out hD (Ne.symm hn4g)).bar hC (Ne.symm hn3g);have hHB:=Bar.join (Bar.join HB3.out hD (by omega)) hC (by omega);have hHP:=(HPP.out.mono (w':=WD) (S':=fun b=>n2+1<=b/\b≠n3/\b≠n4) (fun b hb _=>by rcases hb with hb | hb;exact ⟨hb.1,hb.2.1,by have:=hb.2.2;omega⟩;have:=HLW.out;exact ⟨by omega,by omega,by omega⟩) (fun b hb hlt=>hD.block b hlt (by rcases hb with hb | hb;have:=hb.2.2;omega;have:=HLW.out;omega))).mono (w':=WC) (S':=fun b=>n2+1<=b/\b≠n3) (fun b hb _=>⟨hb.1,hb.2.1⟩) (fun b hb hlt=>hC.block b hlt hb.2.1);have HZC:=h_ hZC;have HXC:=h_ hHX;have HRC:=h_ hHR;have HBC:=h_ hHB;have HPC:=h_ hHP;have EC:=h_ (show WC=set10 (w3.setCell ⟨n4,9,none⟩ (.slice A2 (y.push x).args.length c2)) n3 (.int .i64 y.kind) (.int .i64 y.val.kind) (.bool y.val.bool) (.int .i64 y.val.int) (.string y.val.str) (.slice lb y.val.list.length ld) (.slice mb y.val.map.length md) (.string y.name) (.slice sb y.steps.length sd) (.slice A2 (y.push x).args.length c2) from by rw [<-eD];exact eC);clear hZC hHX hHR hHB hHP eC eD hC hD;go_upto_region 4 with fail;have eC:=EC.out;unfold set10 at eC;rw [<-eC];clear eC k3b f3b l3b k4b f4b l4b;go_wp2_with fail
     refine (tskip gc r2 _ HRC.out).mono ?_
     rintro e w9 ⟨rfl,hrd9,hbar9⟩;have HX9:=h_ (hbar9.blk HXC.out hn2g);have HZ9:=h_ (hbar9.blk HZC.out hn3g);have HB9:=h_ (HBC.out.trans hbar9);have HR9:=h_ hrd9;have HP9:=h_ (HPC.out.mono (S':=fun b=>n2+1<=b/\b≠n3) (fun _ hb _=>hb) (fun b hb hlt=>hbar9.block b hlt (by have:=hb.1;omega)));clear hrd9 hbar9;go_wp2_with fail
     go_roundg r2.s.length
     case measure=>omega
     case rel=>exact ⟨m,r2,y.push x,lb,ld,mb,md,sb,sd,A2,c2,rfl,by omega,by omega,HBIG2,HE,HP9,HZ9,HX9,HR9,HB9⟩
    ·have k4:=HW1.out.cell;have f4:=HW1.out.frozen;have l4:=HW1.out.lt;have k0:=HRB.out.cell;have f0:=HRB.out.frozen;have l0:=HRB.out.lt
     go_upto_region 9 with fail;clear k0 f0 l0;have hpc:=push_run HYP.out HXC.out (Sx:=fun b=>(n2+1<=b/\b≠n3)/\b < wr.heap.size) (fun b hb _=>⟨⟨hb.1.1,hb.1.2,by have:=HSZ2.out;have:=hb.2;omega⟩,fun e=>by have:=HOWN.out b e;have:=hb.2;omega⟩) (by omega);obtain ⟨A2,c2,w3,hrun,hpp,hg3⟩:=hpc
     have hrow:∀ b,Value.ownBlock (.slice ab y.args.length ad)=some b->wr.heap.size<=b/\b < n4:=fun b e=>⟨HOWN.out b e,(HYP.out.inS b e).2.2⟩
     have HB3:=h_ (HB2.out.grow hg3 (fun b e=>by have:=hrow b e;omega));have HR3:=h_ (HR2.out.grow hg3 (fun e=>by have:=hrow gc e;omega));have HX3:=h_ (HX2.out.grow hg3 (fun e=>by have:=hrow n2 e;omega));have HZ3:=h_ (HZ2.out.grow hg3 (fun e=>by have:=hrow n3 e;omega));have HW3:=h_ (HW1.out.grow hg3 (fun e=>by have:=hrow n4 e;omega));have RUN:=h_ hrun;have HPP:=h_ hpp;have HLW:=h_ HW1.out.lt;clear hrun hpp hg3 hrow;have k3:=HZ2.out.cell;have f3:=HZ2.out.frozen;have l3:=HZ2.out.lt;have k4b:=HW3.out.cell;have f4b:=HW3.out.frozen;have l4b:=HW3.out.lt;have k3b:=HZ3.out.cell;have f3b:=HZ3.out.frozen;have l3b:=HZ3.out.lt;go_upto_region 10 with (at_builtin;refine wpList_append_run rfl (.tmp 39) (.tmp 41) 48 rfl RUN.out rfl rfl ?_);clear k3 f3 l3 k4 f4 l4;obtain ⟨WD,eD⟩:∃ z,z=w3.setCell ⟨n4,9,none⟩ (.slice A2 (y.push x).args.length c2):=⟨_,rfl⟩
     have hD:Bar w3 WD n4:=by rw [eD];exact Bar.set n4 9 _
     obtain ⟨WC,eC⟩:∃ z,z=set10 WD n3 (.int .i64 y.kind) (.int .i64 y.val.kind) (.bool y.val.bool) (.int .i64 y.val.int) (.string y.val.str) (.slice lb y.val.list.length ld) (.slice mb y.val.map.length md) (.string y.name) (.slice sb y.steps.length sd) (.slice A2 (y.push x).args.length c2):=⟨_,rfl⟩
     have hC:Bar WD WC n3:=by rw [eC];exact (bar_set10 _ _ _ _ _ _ _ _ _ _ _ _)
     have hZC:Blk WC n3 50 #[.int .i64 y.kind,.int .i64 y.val.kind,.bool y.val.bool,.int .i64 y.val.int,.string y.val.str,.slice lb y.val.list.length ld,.slice mb y.val.map.length md,.string y.name,.slice sb y.steps.length sd,.slice A2 (y.push x).args.length c2]:=by rw [eC];exact blk_set10 (hD.blk HZ3.out (Ne.symm hn43))
     have hHX:=hC.blk (hD.blk HX3.out (Ne.symm hn42)) (Ne.symm hn32);have hHR:RdAt WC gc r2:=(RdAt.bar HR3.out hD (Ne.symm hn4g)).bar hC (Ne.symm hn3g);have hHB:=Bar.join (Bar.join HB3.out hD (by omega)) hC (by omega);have hHP:=(HPP.out.mono (w':=WD) (S':=fun b=>n2+1<=b/\b≠n3/\b≠n4) (fun b hb _=>by rcases hb with hb | hb;exact ⟨hb.1,hb.2.1,by have:=hb.2.2;omega⟩;have:=HLW.out;exact ⟨by omega,by omega,by omega⟩) (fun b hb hlt=>hD.block b hlt (by rcases hb with hb | hb;have:=hb.2.2;omega;have:=HLW.out;omega))).mono (w':=WC) (S':=fun b=>n2+1<=b/\b≠n3) (fun b hb _=>⟨hb.1,hb.2.1⟩) (fun b hb hlt=>hC.block b hlt hb.2.1);have HZC:=h_ hZC;have HXC:=h_ hHX;have HRC:=h_ hHR;have HBC:=h_ hHB;have HPC:=h_ hHP;have EC:=h_ (show WC=set10 (w3.setCell ⟨n4,9,none⟩ (.slice A2 (y.push x).args.length c2)) n3 (.int .i64 y.kind) (.int .i64 y.val.kind) (.bool y.val.bool) (.int .i64 y.val.int) (.string y.val.str) (.slice lb y.val.list.length ld) (.slice mb y.val.map.length md) (.string y.name) (.slice sb y.steps.length sd) (.slice A2 (y.push x).args.length c2) from by rw [<-eD];exact eC);clear hZC hHX hHR hHB hHP eC eD hC hD;go_upto_region 4 with fail;have eC:=EC.out;unfold set10 at eC;rw [<-eC];clear eC k3b f3b l3b k4b f4b l4b;go_wp2_with fail
     refine (tskip gc r2 _ HRC.out).mono ?_
     rintro e w9 ⟨rfl,hrd9,hbar9⟩;have HX9:=h_ (hbar9.blk HXC.out hn2g);have HZ9:=h_ (hbar9.blk HZC.out hn3g);have HB9:=h_ (HBC.out.trans hbar9);have HR9:=h_ hrd9;have HP9:=h_ (HPC.out.mono (S':=fun b=>n2+1<=b/\b≠n3) (fun _ hb _=>hb) (fun b hb hlt=>hbar9.block b hlt (by have:=hb.1;omega)));clear hrd9 hbar9;go_wp2_with fail
     go_roundg r2.s.length
     case measure=>omega
     case rel=>exact ⟨m,r2,y.push x,lb,ld,mb,md,sb,sd,A2,c2,rfl,by omega,by omega,HBIG2,HE,HP9,HZ9,HX9,HR9,HB9⟩
  ·have h124:∀ l,skipB r.s≠124::l:=fun l e=>h124 ⟨l,e⟩
   have hp9:Lib.hasPrefix s9.data.toList [124]=false:=by
    rw [<-hs9,prefix_one]
    cases h9:skipB r.s with
    | nil=>rfl
    | cons a q=>exact decide_eq_false (fun e=>h124 q (by rw [h9,e]))
   have HE:=h_ (show Y0=(x,r.go (skipB r.s)) from by have h9:=HY.out;rw [bars_stop h124] at h9;exact h9);have k3:=HZ.out.cell;have f3:=HZ.out.frozen;have l3:=HZ.out.lt;have k2:=HX.out.cell;have f2:=HX.out.frozen;have l2:=HX.out.lt;clear h124 HY hs9;go_wp2_with fail
   refine (tprefix s9 ⟨#[124]⟩ _).mono ?_
   rintro e w5 ⟨rfl,rfl⟩;rw [show (⟨#[124]⟩:ByteArray).data.toList=[124] from rfl,hp9];clear hp9;go_wp2_with fail
   refine ret_cell (p:=2) (g:=n2) rfl rfl (blk_set10 (w:=wr) HX.out) Tryz.underlying50 (by kernel_rfl) rfl ?_
   rw [HE.out]
   refine ⟨_,rfl,RepOS.mono HXX2.out.whole (fun b hb _=>by have:=hb.1;omega) (fun b hb hlt=>Bar.block (bar_set10 _ _ _ _ _ _ _ _ _ _ _ _) b hlt (by have:=hb.1;omega)),HR.out.bar (bar_set10 _ _ _ _ _ _ _ _ _ _ _ _) (Ne.symm hn2g),Bar.join HB.out (bar_set10 _ _ _ _ _ _ _ _ _ _ _ _) HN2.out⟩
end Go.Proofs.YtnblmhfgmehnnaaGreatDoor
namespace Go.Proofs.YtnblmhfgmehnnaaGreatDoor
open Go.RowKit Go.Lib
abbrev Rdr (f:Nat) (gc:Nat) (W:World) (P:Ending->World->Prop):Prop:=Calls Tryz.prog f #[.pointer (some ⟨gc,0,none⟩)] W P
theorem op_plain (gc:Nat) (r:Rd) (w:World) (h:RdAt w gc r) (hl:r.s.length<=1000000) (hv:ScalV w) (hg:Glob gc) {q:(Ex × Bool) × Rd} (hq:plainOp r=some q):Rdr 98 gc w (OpPost gc q.1.1 q.1.2 q.2 w):=by
 unfold plainOp at hq
 cases hs:skipB r.s with
 | nil=>
  rw [hs] at hq
  simp only [Option.some.injEq] at hq
  subst hq
  exact op_empty gc r w h hl hs
 | cons c l=>
  rw [hs] at hq
  simp only at hq
  by_cases h34:c=34
  ·rw [if_pos h34] at hq
   subst h34
   cases hu:unqL (34::l) with
   | none=>
    rw [hu] at hq
    simp only [Option.some.injEq] at hq
    subst hq
    exact op_badquote gc r w h hl hs hu
   | some p=>
    obtain ⟨t,rest⟩:=p;rw [hu] at hq
    simp only [Option.some.injEq] at hq
    subst hq
    exact op_quote gc r w h hl hs hu
  rw [if_neg h34] at hq
  by_cases h45:c=45\/digitB c=true
  ·rw [if_pos h45] at hq
   cases hn:numV ((c::l).take (numK (c::l))) with
   | none=>
    rw [hn] at hq
    simp only [Option.some.injEq] at hq
    subst hq
    exact op_badnumber gc r w h hl hs h45 hn hv hg
   | some t=>
    rw [hn] at hq
    simp only [Option.some.injEq] at hq
    subst hq
    exact op_number gc r w h hl hs h45 hn hv hg
  rw [if_neg h45] at hq
  by_cases h46:c=46
  ·rw [if_pos h46] at hq
   subst h46
   cases hst:stepsL (l.length+1) (46::l) with
   | mk st rest=>
    rw [hst] at hq
    cases st with
    | nil=>
     simp only [Option.some.injEq] at hq
     subst hq
     exact op_dot0 gc r w h hl hs hst
    | cons y st=>
     simp only [Option.some.injEq] at hq
     subst hq
     exact op_dot gc r w h hl hs hst
  rw [if_neg h46] at hq
  by_cases h36:c=36
  ·rw [if_pos h36] at hq
   subst h36
   by_cases hk:nameK l=0
   ·rw [if_pos hk] at hq
    simp only [Option.some.injEq] at hq
    subst hq
    exact op_baddollar gc r w h hl hs hk
   ·rw [if_neg hk] at hq
    simp only [Option.some.injEq] at hq
    subst hq
    exact op_dollar gc r w h hl hs hk
  rw [if_neg h36] at hq
  by_cases h40:c=40
  ·rw [if_pos h40] at hq
   cases hq
  rw [if_neg h40] at hq
  by_cases hc:nletB c=true
  ·rw [if_pos hc] at hq
   by_cases htr:(c::l).take (nameK (c::l))=trueW
   ·rw [if_pos htr] at hq
    simp only [Option.some.injEq] at hq
    subst hq
    exact op_true gc r w h hl hs hc htr
   rw [if_neg htr] at hq
   by_cases hfa:(c::l).take (nameK (c::l))=falseW
   ·rw [if_pos hfa] at hq
    simp only [Option.some.injEq] at hq
    subst hq
    exact op_false gc r w h hl hs hc htr hfa
   rw [if_neg hfa] at hq
   by_cases hni:(c::l).take (nameK (c::l))=[110,105,108]
   ·rw [if_pos hni] at hq
    simp only [Option.some.injEq] at hq
    subst hq
    exact op_nil gc r w h hl hs hc htr hfa hni
   rw [if_neg hni] at hq
   simp only [Option.some.injEq] at hq
   subst hq
   exact op_word gc r w h hl hs hc htr hfa hni
  ·rw [if_neg hc] at hq
   simp only [Option.some.injEq] at hq
   subst hq
   exact op_other gc r w h hl hs h34 (fun e=>h45 (.inl e)) (by simpa using fun e=>h45 (.inr e)) h46 h36 h40 (by simpa using hc)
def OpOk (gc n:Nat):Prop:=∀ m,m<=n->∀ (r:Rd) (W:World),4*r.s.length+1<=m->r.Big->RdAt W gc r->ScalV W->Rdr 98 gc W (OpPost gc (operandF m r).1.1 (operandF m r).1.2 (operandF m r).2 W)
def CoOk (gc n:Nat):Prop:=∀ m,m<=n->∀ (r:Rd) (W:World),4*r.s.length+2<=m->r.Big->RdAt W gc r->ScalV W->Rdr 83 gc W (ExPost gc (commandF m r).1 (commandF m r).2 W)
def PiOk (gc n:Nat):Prop:=∀ m,m<=n->∀ (r:Rd) (W:World),4*r.s.length+3<=m->r.Big->RdAt W gc r->ScalV W->Rdr 60 gc W (ExPost gc (pipeF m r).1 (pipeF m r).2 W)
theorem op_ok {gc n:Nat} (hg:Glob gc) (hp:PiOk gc n) (r:Rd) (W:World) (hf:4*r.s.length+1<=n+1) (hb:r.Big) (h:RdAt W gc r) (hv:ScalV W):Rdr 98 gc W (OpPost gc (operandF (n+1) r).1.1 (operandF (n+1) r).1.2 (operandF (n+1) r).2 W):=by
 rw [operandF]
 cases hpl:plainOp r with
 | some q=>exact op_plain gc r W h hb.len hv hg hpl
 | none=>
  obtain ⟨l,hs⟩:=plain_none hpl;have hk:=skip_len r.s;rw [hs,List.length_cons] at hk;have h0:=hb.low;have h1:=hb.sum;have h2:=hb.len
  simp only
  by_cases hd:16 < r.deep+1
  ·rw [if_pos hd]
   exact op_deep gc r W h hb.len hs hb.low (by omega) hv hg hd
  ·rw [if_neg hd,hs,List.drop_succ_cons,List.drop_zero]
   have hb1:(⟨l,r.deep+1,r.bad⟩:Rd).Big:=⟨by simp only;omega,by simp only;omega,by simp only;omega⟩
   have HP:∀ W,RdAt W gc ⟨l,r.deep+1,r.bad⟩->ScalV W->Rdr 60 gc W (ExPost gc (pipeF n ⟨l,r.deep+1,r.bad⟩).1 (pipeF n ⟨l,r.deep+1,r.bad⟩).2 W):=fun W hW hvW=>hp n (Nat.le_refl _) _ W (by simp only;omega) hb1 hW hvW
   have hb3:=hb1.le ((le_all n).2.2.2.1 ⟨l,r.deep+1,r.bad⟩)
   split
   ·next q hq=>exact op_paren gc r W h hb.len hs hb.low (by omega) hv hg hd HP hq hb3.low (by have:=hb3.sum;omega)
   ·next hq=>exact op_open gc r W h hb.len hs hb.low (by omega) hv hg hd HP (fun q e=>hq q e)
theorem co_ok {gc n:Nat} (hg:Glob gc) (ho:OpOk gc n) (r:Rd) (W:World) (hf:4*r.s.length+2<=n+1) (hb:r.Big) (h:RdAt W gc r) (hv:ScalV W):Rdr 83 gc W (ExPost gc (commandF (n+1) r).1 (commandF (n+1) r).2 W):=by
 rw [commandF];have hle:=(le_all n).1 r
 have HO:∀ W,RdAt W gc r->ScalV W->Rdr 98 gc W (OpPost gc (operandF n r).1.1 (operandF n r).1.2 (operandF n r).2 W):=fun W hW hvW=>ho n (Nat.le_refl _) r W (by omega) hb hW hvW
 have hb1:=hb.le hle.1;have hl1:=hle.1.len
 split
 ·next hbb=>
  rw [hbb] at HO
  exact co_plain gc r W h hv hg HO
 ·next hbb=>
  rw [Bool.not_eq_true] at hbb;rw [hbb] at HO
  split
  ·next hk=>exact co_none gc r W h hv hg HO hb1.len hk
  ·next hk=>exact co_call gc r W h hv hg HO hb1.len hk hb1 (by omega) ho
theorem pi_ok {gc n:Nat} (hg:Glob gc) (hc:CoOk gc n) (r:Rd) (W:World) (hf:4*r.s.length+3<=n+1) (hb:r.Big) (h:RdAt W gc r) (hv:ScalV W):Rdr 60 gc W (ExPost gc (pipeF (n+1) r).1 (pipeF (n+1) r).2 W):=
 pi_all gc r W h hv hg hb (by omega) hc
theorem ok_all {gc:Nat} (hg:Glob gc) (n:Nat):OpOk gc n/\CoOk gc n/\PiOk gc n:=by
 induction n with
 | zero=>exact ⟨fun m hm r W hf=>by omega,fun m hm r W hf=>by omega,fun m hm r W hf=>by omega⟩
 | succ n ih=>
  obtain ⟨ho,hc,hp⟩:=ih
  refine ⟨fun m hm r W hf hb h hv=>?_,fun m hm r W hf hb h hv=>?_,fun m hm r W hf hb h hv=>?_⟩
  ·rcases Nat.lt_or_ge n m with h1 | h1
   ·obtain rfl:m=n+1:=by omega
    exact op_ok hg hp r W hf hb h hv
   ·exact ho m h1 r W hf hb h hv
  ·rcases Nat.lt_or_ge n m with h1 | h1
   ·obtain rfl:m=n+1:=by omega
    exact co_ok hg ho r W hf hb h hv
   ·exact hc m h1 r W hf hb h hv
  ·rcases Nat.lt_or_ge n m with h1 | h1
   ·obtain rfl:m=n+1:=by omega
    exact pi_ok hg hc r W hf hb h hv
   ·exact hp m h1 r W hf hb h hv
theorem tpipeP (gc:Nat) (r:Rd) (W:World) (h:RdAt W gc r) (hb:r.Big) (hv:ScalV W) (hg:Glob gc):Rdr 60 gc W (ExPost gc (pipeF (fuelX r.s) r).1 (pipeF (fuelX r.s) r).2 W):=
 (ok_all hg (fuelX r.s)).2.2 _ (Nat.le_refl _) r W (by unfold fuelX;omega) hb h hv
end Go.Proofs.YtnblmhfgmehnnaaGreatDoor
namespace Go.Proofs.YtnblmhfgmehnnaaGreatDoor
open Go.RowKit Go.Lib
attribute [local go_sem ↓] Go.wp_at_zero Go.wp_at_succ
theorem var_lt {P:Program} {w:World} {n:String} {cs:Array Value} {g:Nat} (hg:P.globalNamed n=some g) (h:w.var? P n=some cs):g < w.heap.size:=by
 unfold World.var? at h
 simp only [hg,Option.bind_some] at h
 rcases Nat.lt_or_ge g w.heap.size with h' | h'
 ·exact h'
 ·simp [Array.getElem?_eq_none h'] at h
theorem ScalV.glob {w:World} (h:ScalV w) {gc:Nat} (hgc:w.heap.size<=gc):Glob gc:=by
 obtain ⟨h1,tp,p,h2⟩:=h;have h3:=var_lt (g:=5) (by kernel_rfl) h1;have h4:=var_lt (g:=4) (by kernel_rfl) h2
 exact ⟨by omega,by omega⟩
theorem Bar.under {w w':World} {gc:Nat} (g:Bar w w' gc) (h:w.heap.size<=gc):Below w.heap.size w w':=⟨g.os,g.tape,g.output,g.size,fun b hb=>g.block b hb (by omega)⟩
def AllPost (s:LB_) (w:World) (e:Ending) (w':World):Prop:=
 ∃ cs,e=.returned (.tuple #[.agg (List.toArray cs),.int .i64 (allF s).2])/\RepO w' w.heap.size cs (allF s).1/\Below w.heap.size w w'
theorem tall (s:ByteArray) (w:World) (hs:s.size<=1000000) (hv:ScalV w):Calls Tryz.prog 32 #[.string s] w (AllPost s.data.toList w):=by
 obtain ⟨⟨x,r1⟩,hq⟩:∃ z,z=pipeF (fuelX s.data.toList) ⟨s.data.toList,0,0⟩:=⟨_,rfl⟩;have hle:=(le_all (fuelX s.data.toList)).2.2.2.1 ⟨s.data.toList,0,0⟩;have hbig:(⟨s.data.toList,0,0⟩:Rd).Big:=⟨by simp only;rw [<-size_list];omega,Int.le_refl _,by simp only;rw [<-size_list];omega⟩;obtain ⟨y,hy⟩:∃ z,z=(allF s.data.toList).1:=⟨_,rfl⟩;obtain ⟨b,hb⟩:∃ z,z=(allF s.data.toList).2:=⟨_,rfl⟩
 have hall:(y,b)=(if (if r1.bad=0/\skipB r1.s≠[] then 20 else r1.bad)=0 then (x,0) else (Ex.zero,if r1.bad=0/\skipB r1.s≠[] then 20 else r1.bad)):=by rw [hy,hb];unfold allF;rw [<-hq]
 have CP:=h_ (fun (W:World) (gc:Nat) (hW:RdAt W gc ⟨s.data.toList,0,0⟩) (hvW:ScalV W) (hg:Glob gc)=>show Rdr 60 gc W (ExPost gc x r1 W) from by have h9:=tpipeP gc ⟨s.data.toList,0,0⟩ W hW hbig hvW hg;simp only at h9;rw [<-hq] at h9;exact h9);have HALL:=h_ hall;unfold AllPost;rw [<-hy,<-hb];clear hq hle hbig hy hb hall;have hb0:=Below.new w (.cells #[.int .i64 0,.int .i64 0,.bool false,.int .i64 0,.string ⟨#[]⟩,.slice none 0 0,.slice none 0 0,.string ⟨#[]⟩,.slice none 0 0,.slice none 0 0] 50);have hX0:=Blk.new w 50 #[.int .i64 0,.int .i64 0,.bool false,.int .i64 0,.string ⟨#[]⟩,.slice none 0 0,.slice none 0 0,.string ⟨#[]⟩,.slice none 0 0,.slice none 0 0]
 have hz0:(w.alloc (.cells #[.int .i64 0,.int .i64 0,.bool false,.int .i64 0,.string ⟨#[]⟩,.slice none 0 0,.slice none 0 0,.string ⟨#[]⟩,.slice none 0 0,.slice none 0 0] 50)).heap.size=w.heap.size+1:=by simp
 obtain ⟨W0,e0⟩:∃ z,z=w.alloc (.cells #[.int .i64 0,.int .i64 0,.bool false,.int .i64 0,.string ⟨#[]⟩,.slice none 0 0,.slice none 0 0,.string ⟨#[]⟩,.slice none 0 0,.slice none 0 0] 50):=⟨_,rfl⟩;rw [<-e0] at hb0 hX0 hz0;have hb1:=Below.new W0 (.cells #[.string s,.int .i64 0,.int .i64 0] 112);have hR1:=Blk.new W0 112 #[.string s,.int .i64 0,.int .i64 0];obtain ⟨W1,e1⟩:∃ z,z=W0.alloc (.cells #[.string s,.int .i64 0,.int .i64 0] 112):=⟨_,rfl⟩;rw [<-e1] at hb1 hR1;obtain ⟨n2,e2⟩:∃ z,z=w.heap.size:=⟨_,rfl⟩;obtain ⟨gc,eg⟩:∃ z,z=W0.heap.size:=⟨_,rfl⟩;rw [<-eg] at hR1;rw [<-e2] at hX0
 have hn2g:n2≠gc:=by omega
 have HR1:=h_ (show RdAt W1 gc ⟨s.data.toList,0,0⟩ from hR1);have HX1:=h_ (hX0.keep hb1);have HB1:=h_ (show Bar w W1 gc from (Bar.of hb0).trans (Bar.of hb1));have HV1:=h_ ((hv.keep hb0).keep hb1);have HG:=h_ (hv.glob (gc:=gc) (by omega));have hwn2:n2=w.heap.size:=e2
 have hwgc:gc=w.heap.size+1:=by omega
 have E0:=h_ e0;have E1:=h_ e1;have E2:=h_ hwn2;have EG:=h_ eg;have EG2:=h_ hwgc;clear e0 e1 e2 eg hwn2 hwgc hb0 hb1 hX0 hR1 hz0 hv
 go_enter Tryz.func32,Tryz.ntmps32
 go_upto_region 2 with fail;rw [<-EG2.out,<-E2.out,<-E0.out,<-E1.out];go_wp2_with fail
 refine (CP.out _ _ HR1.out HV1.out HG.out).mono ?_
 rintro e w2 ⟨cs,rfl,hx,hrd2,hbar2⟩;obtain ⟨la,lc,ma,mc,sa,sc,aa,ac,rfl, -⟩:=hx.1.inv;have hba:=Below.new w2 (.cells (aX x la lc ma mc sa sc aa ac) 50);have hXA:=(hbar2.blk HX1.out hn2g).keep hba;have hRA:=hrd2.keep hba;have hBA:=(HB1.out.trans hbar2).trans (Bar.of hba);have hXX:=hx.keep hba;have hYA:=Blk.new w2 50 (aX x la lc ma mc sa sc aa ac);have h1a:gc < W1.heap.size:=Blk.lt HR1.out;have h1b:=hbar2.size;have h1c:n2 < W1.heap.size:=HX1.out.lt;unfold aX at *;go_upto_region 3 with fail;obtain ⟨WA,eA⟩:∃ z,z=w2.alloc (.cells #[.int .i64 x.kind,.int .i64 x.val.kind,.bool x.val.bool,.int .i64 x.val.int,.string x.val.str,.slice la x.val.list.length lc,.slice ma x.val.map.length mc,.string x.name,.slice sa x.steps.length sc,.slice aa x.args.length ac] 50):=⟨_,rfl⟩;obtain ⟨n5,e5⟩:∃ z,z=w2.heap.size:=⟨_,rfl⟩;rw [<-eA] at hXA hRA hBA hXX hYA;rw [<-e5] at hYA;rw [<-eA,<-e5]
 have hn5g:n5≠gc:=by omega
 have HXA:=h_ hXA;have HRA:=h_ hRA;have HBA:=h_ hBA;have HXX:=h_ hXX;have HYA:=h_ hYA;have HSZ:=h_ (show gc < W1.heap.size/\n2 < W1.heap.size from ⟨h1a,h1c⟩);clear hba hrd2 hbar2 hx hXA hRA hBA hXX hYA h1a h1b h1c eA e5;go_wp2_with fail
 refine (tskip gc r1 _ HRA.out).mono ?_
 rintro e w4 ⟨rfl,hrd4,hbar4⟩;have HX4:=h_ (hbar4.blk HXA.out hn2g);have HY4:=h_ (hbar4.blk HYA.out hn5g);have HB4:=h_ (HBA.out.trans hbar4);have HXX4:=h_ (HXX.out.mono (Nat.le_refl _) (fun b hb hlt=>hbar4.block b hlt (by have:=HSZ.out.1;omega)));obtain ⟨s4,hs4,hblk4⟩:=hrd4.open
 simp only [Rd.go] at hs4 hblk4
 have HR4:=h_ hrd4;have k0:=hblk4.cell;have f0:=hblk4.frozen;have l0:=hblk4.lt;have k2:=HX4.out.cell;have f2:=HX4.out.frozen;have l2:=HX4.out.lt;have k5:=HY4.out.cell;have f5:=HY4.out.frozen;have l5:=HY4.out.lt;clear hrd4 hbar4 hblk4;have h9:=HALL.out
 by_cases h0:r1.bad=0
 ·have g1:(r1.bad==0)=true:=by rw [h0];rfl
  by_cases hsk:skipB r1.s=[]
  ·have hem:s4.toList.isEmpty=true:=by rw [empty_eq,<-hs4,hsk];rfl
   have g2:(r1.bad !=0)=false:=by rw [h0];rfl
   have hin:(if r1.bad=0/\skipB r1.s≠[] then (20:Int) else r1.bad)=0:=by rw [if_neg (fun h=>h.2 hsk)];exact h0
   rw [hin,if_pos rfl] at h9;clear hin
   injection h9 with h91 h92
   have HE:=h_ (And.intro h91 h92);clear h91 h92 h0 hsk hs4;go_wp2_with fail
   refine ret_cell2 (p:=2) (q:=3) (g:=n2) rfl rfl rfl (blk_set10 (w:=w4) HX4.out) Tryz.underlying50 (by kernel_rfl) rfl ?_
   rw [HE.out.1,HE.out.2]
   exact ⟨_,rfl,RepOS.mono HXX4.out (fun b hb _=>by have:=HSZ.out.2;have:=E2.out;omega) (fun b hb hlt=>Bar.block (bar_set10 _ _ _ _ _ _ _ _ _ _ _ _) b hlt (by have:=HSZ.out.2;omega)),(Bar.join HB4.out (bar_set10 _ _ _ _ _ _ _ _ _ _ _ _) (by have:=E2.out;omega)).under (by have:=EG2.out;omega)⟩
  ·have hem:s4.toList.isEmpty=false:=by rw [empty_eq,<-hs4];exact decide_eq_false hsk
   have hin:(if r1.bad=0/\skipB r1.s≠[] then (20:Int) else r1.bad)=20:=if_pos ⟨h0,hsk⟩;rw [hin,if_neg (by decide)] at h9;clear hin
   injection h9 with h91 h92
   have HE:=h_ (And.intro h91 h92);have HZ:=h_ h0;clear h91 h92 h0 hsk hs4;go_wp2_with fail
   refine (tfail gc (r1.go (skipB r1.s)) 20 _ HR4.out).mono ?_
   rintro e w5 ⟨rfl,hrd5,hbar5⟩
   have hR5:Blk w5 gc 112 #[.string (bs []),.int .i64 r1.deep,.int .i64 20]:=by
    have h8:=hrd5;unfold RdAt Rd.fail Rd.go at h8
    simp only at h8
    rw [if_pos HZ.out] at h8
    exact h8
   have HX5:=h_ (hbar5.blk HX4.out hn2g);have HB5:=h_ (HB4.out.trans hbar5);clear hrd5 hbar5 k0 f0 l0 k2 f2 l2 k5 f5 l5;have k0:=hR5.cell;have f0:=hR5.frozen;have l0:=hR5.lt;have k2:=HX5.out.cell;have f2:=HX5.out.frozen;have l2:=HX5.out.lt;clear hR5;go_wp2_with fail
   go_region
   go_wp2_with fail
   refine ret_cell2 (p:=2) (q:=3) (g:=n2) rfl rfl rfl ((blk_set10 (w:=w5) HX5.out).drew) Tryz.underlying50 (by kernel_rfl) rfl ?_
   rw [HE.out.1,HE.out.2]
   exact ⟨_,rfl,repO_zero,((Bar.join HB5.out (bar_set10 _ _ _ _ _ _ _ _ _ _ _ _) (by have:=E2.out;omega)).trans (Bar.of (Below.drew (Below.refl _ _)))).under (by have:=EG2.out;omega)⟩
 ·have g1:(r1.bad==0)=false:=bf_ h0
  have g2:(r1.bad !=0)=true:=bne_iff_ne.2 h0;have hin:(if r1.bad=0/\skipB r1.s≠[] then (20:Int) else r1.bad)=r1.bad:=if_neg (fun h=>h0 h.1);rw [hin,if_neg h0] at h9;clear hin
  injection h9 with h91 h92
  have HE:=h_ (And.intro h91 h92);clear h91 h92 h0 hs4;go_wp2_with fail
  go_region
  go_wp2_with fail
  refine ret_cell2 (p:=2) (q:=3) (g:=n2) rfl rfl rfl ((blk_set10 (w:=w4) HX4.out).drew) Tryz.underlying50 (by kernel_rfl) rfl ?_
  rw [HE.out.1,HE.out.2]
  exact ⟨_,rfl,repO_zero,((Bar.join HB4.out (bar_set10 _ _ _ _ _ _ _ _ _ _ _ _) (by have:=E2.out;omega)).trans (Bar.of (Below.drew (Below.refl _ _)))).under (by have:=EG2.out;omega)⟩
theorem tword (s:ByteArray) (w:World) (hs:s.size<=1000000):Calls Tryz.prog 56 #[.string s] w fun e w'=>e=.returned (.tuple #[.string (nameT s.data.toList),.string (bs (nameD s.data.toList))])/\Below w.heap.size w w':=by
 have hb1:=Below.new w (.cells #[.string s,.int .i64 0,.int .i64 0] 112);have hR1:=Blk.new w 112 #[.string s,.int .i64 0,.int .i64 0];obtain ⟨W1,e1⟩:∃ z,z=w.alloc (.cells #[.string s,.int .i64 0,.int .i64 0] 112):=⟨_,rfl⟩;rw [<-e1] at hb1 hR1;obtain ⟨gc,eg⟩:∃ z,z=w.heap.size:=⟨_,rfl⟩;rw [<-eg] at hR1;have HR1:=h_ (show RdAt W1 gc ⟨s.data.toList,0,0⟩ from hR1);have HB1:=h_ (show Bar w W1 gc from Bar.of hb1);have CN:=h_ (show Calls Tryz.prog 79 #[.pointer (some ⟨gc,0,none⟩)] W1 _ from tname gc ⟨s.data.toList,0,0⟩ W1 HR1.out (by simp only;rw [<-size_list];exact hs));obtain ⟨nm,hnm⟩:∃ z,z=nameT s.data.toList:=⟨_,rfl⟩;obtain ⟨rs,hrs⟩:∃ z,z=nameD s.data.toList:=⟨_,rfl⟩
 simp only [Rd.go] at CN
 rw [<-hnm,<-hrs] at CN;rw [<-hnm,<-hrs];have E1:=h_ e1;have EG:=h_ eg;clear e1 eg hb1 hR1 hnm hrs
 go_enter Tryz.func56,Tryz.ntmps56
 go_upto_region 2 with fail;rw [<-EG.out,<-E1.out];go_wp2_with fail
 refine CN.out.mono ?_
 rintro e w2 ⟨rfl,hrd2,hbar2⟩;have HB2:=h_ (HB1.out.trans hbar2);have hR2:Blk w2 gc 112 #[.string (bs rs),.int .i64 0,.int .i64 0]:=hrd2;have k0:=hR2.cell;have f0:=hR2.frozen;have l0:=hR2.lt;clear hR2 hrd2 hbar2;go_wp2_with fail
 go_region
 go_wp2_with fail;go_ret2
 exact ⟨rfl,(HB2.out.trans (Bar.of (Below.drew (Below.refl _ _)))).under (by have:=EG.out;omega)⟩
theorem tcutp (s p:ByteArray) (w:World):Calls Tryz.prog 82 #[.string s,.string p] w fun e w'=>e=.returned (.tuple #[.string (bs (Lib.trimPrefix s.data.toList p.data.toList)),.bool (Lib.hasPrefix s.data.toList p.data.toList)])/\w=w':=(Tryz.strings_CutPrefix s p w).mono fun _ _ h=>⟨h.1,h.2.symm⟩
theorem name_empty (l:LB_):(nameT l).toList.isEmpty=decide (nameK l=0):=by
 rw [empty_eq,Bool.eq_iff_iff,decide_eq_true_eq,decide_eq_true_eq];unfold nameT;rw [bs_list,<-List.length_eq_zero_iff,List.length_take]
 have:=nameK_le l
 omega
theorem tvariable (s:ByteArray) (w:World) (hs:s.size<=1000000):Calls Tryz.prog 81 #[.string s] w fun e w'=>e=.returned (.tuple #[.string (varL s.data.toList).1,.string (bs (varL s.data.toList).2.1),.bool (varL s.data.toList).2.2])/\Below w.heap.size w w':=by
 have hk:=skip_len s.data.toList;rw [<-size_list] at hk;obtain ⟨t,ht⟩:∃ z,z=bs (skipB s.data.toList):=⟨_,rfl⟩;have CT:=h_ (show Calls Tryz.prog 50 #[.string s,.string ⟨#[32,9,10]⟩] w (fun e w'=>e=.returned (.string t)/\Below w.heap.size w w') from by rw [ht];exact ttrimL s w)
 by_cases h36:∃ l,skipB s.data.toList=36::l
 ·obtain ⟨l,hl⟩:=h36
  rw [hl] at hk ht
  simp only [List.length_cons] at hk
  have hv:varL s.data.toList=(nameT l,skipB (nameD l),decide (nameK l≠0)):=by unfold varL;rw [hl];rfl
  rw [hv]
  have CC:=h_ (fun w=>show Calls Tryz.prog 82 #[.string t,.string ⟨#[36]⟩] w (fun e w'=>e=.returned (.tuple #[.string (bs l),.bool true])/\w=w') from by
   have h9:=tcutp t ⟨#[36]⟩ w;rw [ht,show (⟨#[36]⟩:ByteArray).data.toList=[36] from rfl,bs_list,Lib.trimPrefix,prefix_one] at h9;rw [ht]
   exact h9)
  have hem0:=name_empty l;obtain ⟨nm,hnm⟩:∃ z,z=nameT l:=⟨_,rfl⟩;obtain ⟨r2,hr2⟩:∃ z,z=nameD l:=⟨_,rfl⟩;obtain ⟨s3,hs3⟩:∃ z,z=bs (skipB (nameD l)):=⟨_,rfl⟩
  have hl9:l.length<=1000000:=by omega
  have CN:=h_ (fun (W:World) (gc:Nat) (hW:RdAt W gc ⟨l,0,0⟩)=>show Rdr 79 gc W (fun e w'=>e=.returned (.string nm)/\RdAt w' gc ⟨r2,0,0⟩/\Bar W w' gc) from by rw [hnm,hr2];exact tname gc ⟨l,0,0⟩ W hW hl9);have CS:=h_ (fun (W:World) (gc:Nat) (hW:RdAt W gc ⟨r2,0,0⟩)=>show Rdr 61 gc W (fun e w'=>e=.returned (.tuple #[])/\Blk w' gc 112 #[.string s3,.int .i64 0,.int .i64 0]/\Bar W w' gc) from by rw [hs3,<-hr2];exact tskip gc ⟨r2,0,0⟩ W hW);obtain ⟨bl,hbl⟩:∃ z,z=bs l:=⟨_,rfl⟩;rw [<-hbl] at CC;have HBL:=h_ hbl
  simp only
  rw [<-hnm,<-hs3];rw [<-hnm] at hem0;obtain ⟨bb,hbb⟩:∃ z,z=decide (nameK l≠0):=⟨_,rfl⟩
  have hem:nm.toList.isEmpty=!bb:=by rw [hem0,hbb];by_cases h:nameK l=0 <;>simp [h]
  rw [<-hbb];clear hnm hr2 hs3 hbl hbb hv hl ht hem0 hk
  go_enter Tryz.func81,Tryz.ntmps81
  go_wp2_with fail
  refine CT.out.mono ?_
  rintro e w1 ⟨rfl,hb1⟩;have HB1:=h_ (hb1.alloc hb1.size (.cells #[.string bl,.int .i64 0,.int .i64 0] 112));have HR1:=h_ (show RdAt (w1.alloc (.cells #[.string bl,.int .i64 0,.int .i64 0] 112)) w1.heap.size ⟨l,0,0⟩ from by have h9:=Blk.new w1 112 #[.string bl,.int .i64 0,.int .i64 0];rw [HBL.out] at h9 ⊢;exact h9);have HSZ:=h_ hb1.size;clear hb1;go_wp2_with fail
  refine (CC.out _).mono ?_
  rintro e w9 ⟨rfl,rfl⟩;go_upto_region 5 with fail;obtain ⟨W1,e1⟩:∃ z,z=w1.alloc (.cells #[.string bl,.int .i64 0,.int .i64 0] 112):=⟨_,rfl⟩;obtain ⟨gc,eg⟩:∃ z,z=w1.heap.size:=⟨_,rfl⟩;rw [<-e1] at HB1 HR1;rw [<-eg] at HR1 HSZ;rw [<-eg,<-e1];clear eg e1;go_wp2_with fail
  refine (CN.out _ _ HR1.out).mono ?_
  rintro e w2 ⟨rfl,hrd2,hbar2⟩;have HR2:=h_ hrd2;have HB2:=h_ (show Bar w w2 gc from (Bar.of HB1.out).trans hbar2);clear hrd2 hbar2;go_wp2_with fail
  refine (CS.out _ _ HR2.out).mono ?_
  rintro e w3 ⟨rfl,hrd3,hbar3⟩;have HB3:=h_ (HB2.out.trans hbar3);have k0:=hrd3.cell;have f0:=hrd3.frozen;have l0:=hrd3.lt;clear hrd3 hbar3;go_wp2_with fail
  go_region
  go_wp2_with fail;go_ret3
  exact ⟨by simp,(HB3.out.trans (Bar.of (Below.drew (Below.refl _ _)))).under HSZ.out⟩
 ·have hv:varL s.data.toList=(⟨#[]⟩,[],false):=by
   unfold varL
   split
   ·next l hl=>exact absurd ⟨l,hl⟩ h36
   ·rfl
  rw [hv]
  have hno:Lib.hasPrefix (skipB s.data.toList) [36]=false:=by
   rw [prefix_one]
   cases h9:skipB s.data.toList with
   | nil=>rfl
   | cons a q=>exact decide_eq_false (fun e=>h36 ⟨q,by rw [h9,e]⟩)
  have CC:=h_ (fun w=>show Calls Tryz.prog 82 #[.string t,.string ⟨#[36]⟩] w (fun e w'=>e=.returned (.tuple #[.string t,.bool false])/\w=w') from by
   have h9:=tcutp t ⟨#[36]⟩ w;rw [ht,show (⟨#[36]⟩:ByteArray).data.toList=[36] from rfl,bs_list,Lib.trimPrefix,hno] at h9;rw [ht]
   exact h9)
  clear hv hno ht hk h36
  go_enter Tryz.func81,Tryz.ntmps81
  go_wp2_with fail
  refine CT.out.mono ?_
  rintro e w1 ⟨rfl,hb1⟩;have HB1:=h_ hb1;clear hb1;go_wp2_with fail
  refine (CC.out _).mono ?_
  rintro e w9 ⟨rfl,rfl⟩;go_wp2_with fail;go_ret3
  exact ⟨rfl,HB1.out⟩
theorem prefix_two (a b:UInt8) (l:LB_):Lib.hasPrefix l [a,b]=(match l with | x::y::_=>decide (x=a) && decide (y=b) | _=>false):=by
 match l with
 | []=>rfl
 | [x]=>simp [Lib.hasPrefix,List.isPrefixOf]
 | x::y::l=>simp [Lib.hasPrefix,List.isPrefixOf,Bool.beq_eq_decide_eq,eq_comm]
theorem setL_false {s:LB_} (h:(varL s).2.2=false):setL s=varL s:=by
 unfold setL
 simp only
 rw [h]
 rfl
theorem setL_true {s:LB_} (h:(varL s).2.2=true):setL s=((varL s).1,Lib.trimPrefix (varL s).2.1 [58,61],Lib.hasPrefix (varL s).2.1 [58,61]):=by
 unfold setL
 simp only
 rw [if_pos h,Lib.trimPrefix,prefix_two]
 split
 ·next l hl=>rw [hl];rfl
 ·next hl=>
  have h0:(match (varL s).2.1 with | x::y::_=>decide (x=(58:UInt8)) && decide (y=(61:UInt8)) | _=>false)=false:=by
   match h9:(varL s).2.1 with
   | []=>rfl
   | [x]=>rfl
   | x::y::l=>
    simp only
    by_cases h1:x=58
    ·by_cases h2:y=61
     ·subst h1 h2;exact absurd h9 (hl l)
     ·simp [h2]
    ·simp [h1]
  rw [h0]
  rfl
theorem tset (s:ByteArray) (w:World) (hs:s.size<=1000000):Calls Tryz.prog 58 #[.string s] w fun e w'=>e=.returned (.tuple #[.string (setL s.data.toList).1,.string (bs (setL s.data.toList).2.1),.bool (setL s.data.toList).2.2])/\Below w.heap.size w w':=by
 have CV:=h_ (tvariable s w hs)
 have hc:=fun v=>@Eq.refl Bool v
 cases hb:(varL s.data.toList).2.2 with
 | false=>
  rw [hb] at CV;rw [setL_false hb,hb];obtain ⟨v1,h1⟩:∃ z,z=(varL s.data.toList).1:=⟨_,rfl⟩;obtain ⟨v2,h2⟩:∃ z,z=bs (varL s.data.toList).2.1:=⟨_,rfl⟩;rw [<-h1,<-h2] at CV ⊢;clear h1 h2 hb hc
  go_enter Tryz.func58,Tryz.ntmps58
  go_wp2_with fail
  refine CV.out.mono ?_
  rintro e w1 ⟨rfl,hb1⟩;have HB1:=h_ hb1;clear hb1;go_wp2_with fail;go_ret3
  exact ⟨rfl,HB1.out⟩
 | true=>
  rw [hb] at CV;rw [setL_true hb];obtain ⟨v1,h1⟩:∃ z,z=(varL s.data.toList).1:=⟨_,rfl⟩;obtain ⟨v2,h2⟩:∃ z,z=bs (varL s.data.toList).2.1:=⟨_,rfl⟩;obtain ⟨v3,h3⟩:∃ z,z=bs (Lib.trimPrefix (varL s.data.toList).2.1 [58,61]):=⟨_,rfl⟩;obtain ⟨b3,h4⟩:∃ z,z=Lib.hasPrefix (varL s.data.toList).2.1 [58,61]:=⟨_,rfl⟩;have CC:=h_ (fun w=>show Calls Tryz.prog 82 #[.string v2,.string ⟨#[58,61]⟩] w (fun e w'=>e=.returned (.tuple #[.string v3,.bool b3])/\w=w') from by rw [h2,h3,h4];exact tcutp (bs (varL s.data.toList).2.1) ⟨#[58,61]⟩ w);rw [<-h1,<-h2] at CV
  simp only
  rw [<-h1,<-h3,<-h4];clear h1 h2 h3 h4 hb hc
  go_enter Tryz.func58,Tryz.ntmps58
  go_wp2_with fail
  refine CV.out.mono ?_
  rintro e w1 ⟨rfl,hb1⟩;have HB1:=h_ hb1;clear hb1;go_wp2_with fail
  refine (CC.out _).mono ?_
  rintro e w9 ⟨rfl,rfl⟩;go_wp2_with fail;go_ret3
  exact ⟨rfl,HB1.out⟩
theorem name_bad1 {s:ByteArray} {q:Nat} (h:q < s.size) (hp:npartB s[q]=false):nameL s.data.toList=false:=by
 rw [byte_at h] at hp
 have h1:s.data.toList.all npartB=false:=by
  rw [List.all_eq_false]
  exact ⟨_,List.getElem_mem _,by rw [hp];decide⟩
 unfold nameL;rw [h1]
 rfl
theorem name_bad0 {s:ByteArray} (h:0 < s.size) (hp:nletB s[0]=false):nameL s.data.toList=false:=by
 rw [byte_at h] at hp;unfold nameL
 cases hl:s.data.toList with
 | nil=>simp
 | cons c l=>
  simp only [hl,List.getElem_cons_zero] at hp
  simp [hp]
theorem name_good {s:ByteArray} (h:s.data.toList.all npartB=true) (hp:∀ h:0 < s.size,nletB s[0]=true):nameL s.data.toList=(decide (s.size≠0) && decide (s.size<=256)):=by
 unfold nameL;rw [h,size_list]
 cases hl:s.data.toList with
 | nil=>simp
 | cons c l=>
  have h0:0 < s.size:=by rw [size_list,hl];simp
  have h1:=hp h0;rw [byte_at h0] at h1
  simp only [hl,List.getElem_cons_zero] at h1
  simp [h1]
theorem all_take_succ {l:LB_} {q:Nat} (h:q < l.length):(l.take (q+1)).all npartB=((l.take q).all npartB && npartB l[q]):=by
 rw [List.take_succ_eq_append_getElem h,List.all_append]
 simp
theorem tnameL (s:ByteArray) (w:World) (hs:s.size<=140737488351232):Calls Tryz.prog 20 #[.string s] w fun e w'=>e=.returned (.bool (nameL s.data.toList))/\w=w':=by
 obtain ⟨bb,hbb⟩:∃ z,z=nameL s.data.toList:=⟨_,rfl⟩;rw [<-hbb];have HBB:=h_ hbb;clear hbb
 go_enter Tryz.func20,Tryz.ntmps20
 go_wp2_with fail
 go_loop [6] (fun x6=>∃ q:Nat,q<=s.size/\x6=.int .i64 q/\Hid ((s.data.toList.take q).all npartB=true)/\Hid (0 < q->∀ h:0 < s.size,nletB s[0]=true)) (fun x6=>s.size - (Lib.intOf x6).toNat)
 case atStart=>exact ⟨0,Nat.zero_le _,rfl,h_ (by simp),h_ (fun h=>absurd h (Nat.lt_irrefl _))⟩
 case round=>
  obtain ⟨q,hq,rfl,HA,HL⟩:=hrel
  by_cases hlt:q < s.size
  ·have hlt2:(q:Int) < s.size:=by omega
   have h256:=UInt8.toNat_lt s[q];have CP:=h_ (tpartP s[q] w);have CL:=h_ (tletterP s[q] w)
   cases hp:npartB s[q] with
   | false=>
    have HE:=h_ (name_bad1 hlt hp);rw [hp] at CP;clear hp
    go_wp2_with (first | (go_at_call 37;refine CP.out.mono ?_;rintro e w9 ⟨rfl,rfl⟩) | (go_at_call 38;refine CL.out.mono ?_;rintro e w9 ⟨rfl,rfl⟩))
    go_ret
    exact ⟨by rw [HBB.out,HE.out];rfl,rfl⟩
   | true=>
    rw [hp] at CP;have HA2:=h_ (show (s.data.toList.take (q+1)).all npartB=true from by rw [all_take_succ (by rw [<-size_list];exact hlt),HA.out,<-byte_at hlt,hp];rfl)
    by_cases h0:q=0
    ·subst h0
     cases hl:nletB s[0] with
     | false=>
      have HE:=h_ (name_bad0 hlt hl);rw [hl] at CL;clear hp hl
      go_wp2_with (first | (go_at_call 37;refine CP.out.mono ?_;rintro e w9 ⟨rfl,rfl⟩) | (go_at_call 38;refine CL.out.mono ?_;rintro e w9 ⟨rfl,rfl⟩))
      go_ret
      exact ⟨by rw [HBB.out,HE.out];rfl,rfl⟩
     | true=>
      have HL2:=h_ hl;rw [hl] at CL;clear hp hl
      go_wp2_with (first | (go_at_call 37;refine CP.out.mono ?_;rintro e w9 ⟨rfl,rfl⟩) | (go_at_call 38;refine CL.out.mono ?_;rintro e w9 ⟨rfl,rfl⟩))
      go_round
      case rel=>exact ⟨1,by omega,by go_num,HA2,h_ (fun _ _=>HL2.out)⟩
      case measure=>simp [Lib.intOf];omega
    ·have g0:((q:Int)==0)=false:=bf_ (by omega)
     have HL2:=h_ (HL.out (by omega));clear hp
     go_wp2_with (first | (go_at_call 37;refine CP.out.mono ?_;rintro e w9 ⟨rfl,rfl⟩) | (go_at_call 38;refine CL.out.mono ?_;rintro e w9 ⟨rfl,rfl⟩))
     go_round
     case rel=>exact ⟨q+1,by omega,by go_num,HA2,h_ (fun _=>HL2.out)⟩
     case measure=>simp [Lib.intOf];omega
  ·obtain rfl:q=s.size:=by omega
   have HE:=h_ (name_good (by have h9:=HA.out;rw [List.take_of_length_le (by rw [<-size_list];exact Nat.le_refl _)] at h9;exact h9) (fun h=>HL.out h h))
   by_cases h0:s.size=0
   ·have hem:s.toList.isEmpty=true:=by rw [empty_eq];exact decide_eq_true (List.length_eq_zero_iff.1 (by rw [<-size_list];exact h0))
    go_wp2_with fail;go_ret
    exact ⟨by rw [HBB.out,HE.out,decide_eq_false (fun h=>h h0)];rfl,rfl⟩
   ·have hem:s.toList.isEmpty=false:=by rw [empty_eq];exact decide_eq_false (fun h=>h0 (by rw [size_list,h];rfl))
    have HZ:=h_ h0;have HD:=h_ (show decide ((s.size:Int)<=256)=decide (s.size<=256) from by rw [decide_eq_decide];omega);clear h0;go_wp2_with fail;go_ret
    exact ⟨by rw [HBB.out,HE.out,decide_eq_true HZ.out,Bool.true_and,<-HD.out];rfl,rfl⟩
structure MkAt (w:World) (gm:Nat) (A:OA_) (c:Nat) (toks:List Tok) (m:Mk):Prop where
 blk:Blk w gm 76 #[.slice A toks.length c,.int .i64 ((toks.length - m.rest.length:Nat):Int),.int .i64 m.deep,.int .i64 m.bad]
 rest:m.rest=toks.drop (toks.length - m.rest.length)
 toks:RepE eltK w (fun b=>b < gm) A toks
section
variable {w w':World} {gm:Nat} {A:OA_} {c:Nat} {toks:List Tok} {m:Mk}
theorem MkAt.le (h:MkAt w gm A c toks m):m.rest.length<=toks.length:=by have:=congrArg List.length h.rest;rw [List.length_drop] at this;omega
theorem MkAt.far (h:MkAt w gm A c toks m) (hw:∀ b,b<=gm->b < w.heap.size->w'.heap[b]? =w.heap[b]?):MkAt w' gm A c toks m:=
 ⟨(hw gm (Nat.le_refl _) h.blk.lt).trans h.blk,h.rest,h.toks.mono (fun _ hb _=>hb) (fun b _ hb hlt=>World.cell?_of_block (hw b (Nat.le_of_lt hb) hlt))⟩
theorem MkAt.keep (h:MkAt w gm A c toks m) (hb:Below w.heap.size w w'):MkAt w' gm A c toks m:=h.far fun b _ hlt=>hb.block b hlt
theorem MkAt.bar {g:Nat} (h:MkAt w gm A c toks m) (k:Bar w w' g) (hg:gm < g):MkAt w' gm A c toks m:=h.far fun b hb hlt=>k.block b hlt (by omega)
theorem RepE.barM (h:RepE eltK w (fun b=>b < gm) A toks) (k:Bar w w' gm):RepE eltK w' (fun b=>b < gm) A toks:=h.mono (fun _ hb _=>hb) (fun b _ hb hlt=>World.cell?_of_block (k.block b hlt (by omega)))
end
theorem drop_all {α:Type} (l:List α):([]:List α)=l.drop (l.length - ([]:List α).length):=by simp
theorem mfail (gm:Nat) (A:OA_) (c:Nat) (toks:List Tok) (m:Mk) (e0:Int) (w:World) (h:MkAt w gm A c toks m):Calls Tryz.prog 29 #[.pointer (some ⟨gm,0,none⟩),.int .i64 e0] w fun e w'=>e=.returned (.tuple #[])/\MkAt w' gm A c toks (m.fail e0)/\Bar w w' gm:=by
 obtain ⟨rest,d,b⟩:=m;obtain ⟨hblk,hr,ht⟩:=h
 simp only at hblk hr
 obtain ⟨k,hk⟩:∃ z:Int,z=((toks.length - rest.length:Nat):Int):=⟨_,rfl⟩;rw [<-hk] at hblk;have H:=h_ hblk;have HT:=h_ ht;have k0:=hblk.cell;have f0:=hblk.frozen;have l0:=hblk.lt;clear hblk hr hk ht;have HN:=h_ (show ((toks.length - ([]:List Tok).length:Nat):Int)=(toks.length:Int) from by simp)
 by_cases hb:b=0
 ·have gb:(b==0)=true:=by rw [hb];rfl
  have HF:=h_ (show (⟨rest,d,b⟩:Mk).fail e0=⟨[],d,e0⟩ from by unfold Mk.fail;rw [if_pos hb]);clear hb
  go_enter Tryz.func29,Tryz.ntmps29
  go_wp2_with fail
  go_end0
  rw [HF.out];have hbar:=(Bar.set (w:=w) gm 3 (.int .i64 e0)).trans (Bar.set gm 1 (.int .i64 toks.length))
  exact ⟨rfl,⟨by rw [HN.out];exact (H.out.set_ 3 (.int .i64 e0)).set_ 1 (.int .i64 toks.length),drop_all toks,HT.out.barM hbar⟩,hbar⟩
 ·have gb:(b==0)=false:=bf_ hb
  have HF:=h_ (show (⟨rest,d,b⟩:Mk).fail e0=⟨[],d,b⟩ from by unfold Mk.fail;rw [if_neg hb]);clear hb
  go_enter Tryz.func29,Tryz.ntmps29
  go_wp2_with fail
  go_end0
  rw [HF.out]
  exact ⟨rfl,⟨by rw [HN.out];exact H.out.set_ 1 (.int .i64 toks.length),drop_all toks,HT.out.barM (Bar.set gm 1 _)⟩,Bar.set gm 1 _⟩
def MxPost (gm:Nat) (A:OA_) (c:Nat) (toks:List Tok) (x:Ex) (m':Mk) (w:World) (e:Ending) (w':World):Prop:=
 ∃ cs,e=.returned (.agg (List.toArray cs))/\RepO w' w.heap.size cs x/\MkAt w' gm A c toks m'/\Bar w w' gm
theorem tmpipe (gm:Nat) (A:OA_) (c:Nat) (toks:List Tok) (m:Mk) (s:ByteArray) (w:World) (h:MkAt w gm A c toks m) (hs:s.size<=1000000) (hv:ScalV w):Calls Tryz.prog 59 #[.pointer (some ⟨gm,0,none⟩),.string s] w (MxPost gm A c toks (mpipe m s.data.toList).1 (mpipe m s.data.toList).2 w):=by
 obtain ⟨x,hx⟩:∃ z,z=(allF s.data.toList).1:=⟨_,rfl⟩;obtain ⟨b,hb⟩:∃ z,z=(allF s.data.toList).2:=⟨_,rfl⟩;obtain ⟨m2,hm2⟩:∃ z,z=(mpipe m s.data.toList).2:=⟨_,rfl⟩;have HM2:=h_ (show m2=if b=0 then m else m.fail b from by rw [hm2,hb];rfl);rw [show (mpipe m s.data.toList).1=x from hx.symm,<-hm2];have CA:=h_ (fun (W:World) (hvW:ScalV W)=>show Calls Tryz.prog 32 #[.string s] W (fun e w'=>∃ cs,e=.returned (.tuple #[.agg (List.toArray cs),.int .i64 b])/\RepO w' W.heap.size cs x/\Below W.heap.size W w') from by rw [hx,hb];exact tall s W hs hvW);clear hx hb hm2;have hgm:=h.blk.lt;have hb0:Below w.heap.size w (w.alloc (.cells #[.int .i64 0,.int .i64 0,.bool false,.int .i64 0,.string ⟨#[]⟩,.slice none 0 0,.slice none 0 0,.string ⟨#[]⟩,.slice none 0 0,.slice none 0 0] 50)):=Below.new _ _;have H0:=h_ (h.keep hb0);have HX0:=h_ (show Blk (w.alloc (.cells #[.int .i64 0,.int .i64 0,.bool false,.int .i64 0,.string ⟨#[]⟩,.slice none 0 0,.slice none 0 0,.string ⟨#[]⟩,.slice none 0 0,.slice none 0 0] 50)) w.heap.size 50 #[.int .i64 0,.int .i64 0,.bool false,.int .i64 0,.string ⟨#[]⟩,.slice none 0 0,.slice none 0 0,.string ⟨#[]⟩,.slice none 0 0,.slice none 0 0] from Blk.new _ _ _);have HB0:=h_ (Bar.of (gc:=gm) hb0);have HV0:=h_ (hv.keep hb0);clear h;obtain ⟨W0,e0⟩:∃ z,z=w.alloc (.cells #[.int .i64 0,.int .i64 0,.bool false,.int .i64 0,.string ⟨#[]⟩,.slice none 0 0,.slice none 0 0,.string ⟨#[]⟩,.slice none 0 0,.slice none 0 0] 50):=⟨_,rfl⟩;obtain ⟨n2,e2⟩:∃ z,z=w.heap.size:=⟨_,rfl⟩;rw [<-e0] at H0 HX0 HB0 HV0;rw [<-e2] at HX0
 have hn2g:gm < n2:=by omega
 have E0:=h_ e0;have E2:=h_ e2;clear e0 e2 hb0
 go_enter Tryz.func59,Tryz.ntmps59
 refine wp_seq_cut (fun K0 hK0=>?_)
 go_wp2_with fail
 refine hK0.out _ _ ?_
 rw [<-E0.out,<-E2.out];clear E0 hK0 K0;go_wp2_with fail
 refine (CA.out _ HV0.out).mono ?_
 rintro e w1 ⟨cs,rfl,hx1,hb1⟩;obtain ⟨la,lc,ma,mc,sa,sc,aa,ac,rfl, -⟩:=hx1.1.inv;have hba:=Below.new w1 (.cells (aX x la lc ma mc sa sc aa ac) 50);have HX1:=h_ ((HX0.out.keep hb1).keep hba);have HM1:=h_ ((H0.out.keep hb1).keep hba);have HB1:=h_ ((HB0.out.trans (Bar.of hb1)).trans (Bar.of hba));have HXX:=h_ (hx1.keep hba);have HY1:=h_ (show Blk (w1.alloc (.cells (aX x la lc ma mc sa sc aa ac) 50)) w1.heap.size 50 (aX x la lc ma mc sa sc aa ac) from Blk.new _ _ _);have hl2:n2 < W0.heap.size:=HX0.out.lt;have hl1:W0.heap.size<=w1.heap.size:=hb1.size;clear hba hb1 hx1;unfold aX at *;go_upto_region 2 with fail;obtain ⟨WA,eA⟩:∃ z,z=w1.alloc (.cells #[.int .i64 x.kind,.int .i64 x.val.kind,.bool x.val.bool,.int .i64 x.val.int,.string x.val.str,.slice la x.val.list.length lc,.slice ma x.val.map.length mc,.string x.name,.slice sa x.steps.length sc,.slice aa x.args.length ac] 50):=⟨_,rfl⟩;obtain ⟨n5,e5⟩:∃ z,z=w1.heap.size:=⟨_,rfl⟩;rw [<-eA] at HX1 HM1 HB1 HXX HY1;rw [<-e5] at HY1 hl1;rw [<-eA,<-e5];clear eA e5
 have hn52:n5≠n2:=by omega
 by_cases hz:b=0
 ·have g1:(b !=0)=false:=by rw [hz];rfl
  have HE:=h_ (show m2=m from by rw [HM2.out,if_pos hz]);clear hz HM2;have k2:=HX1.out.cell;have f2:=HX1.out.frozen;have l2:=HX1.out.lt;have k5:=HY1.out.cell;have f5:=HY1.out.frozen;have l5:=HY1.out.lt;go_wp2_with fail
  refine ret_cell (p:=4) (g:=n2) rfl rfl (blk_set10 (w:=WA) HX1.out) Tryz.underlying50 (by kernel_rfl) rfl ?_
  rw [HE.out]
  exact ⟨_,rfl,RepOS.mono HXX.out (fun b hb _=>by have:=HB0.out.size;omega) (fun b hb hlt=>Bar.block (bar_set10 _ _ _ _ _ _ _ _ _ _ _ _) b hlt (by omega)),HM1.out.bar (bar_set10 _ _ _ _ _ _ _ _ _ _ _ _) hn2g,Bar.join HB1.out (bar_set10 _ _ _ _ _ _ _ _ _ _ _ _) (by have:=E2.out;omega)⟩
 ·have g1:(b !=0)=true:=bne_iff_ne.2 hz
  have HE:=h_ (show m2=m.fail b from by rw [HM2.out,if_neg hz]);clear hz HM2;go_wp2_with fail
  refine (mfail gm A c toks m b _ HM1.out).mono ?_
  rintro e w3 ⟨rfl,hm3,hbar3⟩;have HX3:=h_ (hbar3.blk HX1.out (by omega));have HY3:=h_ (hbar3.blk HY1.out (by omega));have HM3:=h_ hm3;have HB3:=h_ (HB1.out.trans hbar3);have HX33:=h_ (HXX.out.bar hbar3 (by omega));clear hm3 hbar3;have k2:=HX3.out.cell;have f2:=HX3.out.frozen;have l2:=HX3.out.lt;have k5:=HY3.out.cell;have f5:=HY3.out.frozen;have l5:=HY3.out.lt;go_wp2_with fail
  refine ret_cell (p:=4) (g:=n2) rfl rfl (blk_set10 (w:=w3) HX3.out) Tryz.underlying50 (by kernel_rfl) rfl ?_
  rw [HE.out]
  exact ⟨_,rfl,RepOS.mono HX33.out (fun b hb _=>by have:=HB0.out.size;omega) (fun b hb hlt=>Bar.block (bar_set10 _ _ _ _ _ _ _ _ _ _ _ _) b hlt (by omega)),HM3.out.bar (bar_set10 _ _ _ _ _ _ _ _ _ _ _ _) hn2g,Bar.join HB3.out (bar_set10 _ _ _ _ _ _ _ _ _ _ _ _) (by have:=E2.out;omega)⟩
end Go.Proofs.YtnblmhfgmehnnaaGreatDoor
