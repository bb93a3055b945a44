/- Several texts as one. -/
import Derived.Test.YtnblmhfgmehnnaaGreatDoorPeFo
import Derived.Test.YtnblmhfgmehnnaaGreatDoorPeMv
import Derived.Test.YtnblmhfgmehnnaaGreatDoorPeAE
set_option maxRecDepth 100000
set_option maxHeartbeats 8000000
namespace Go.Proofs.YtnblmhfgmehnnaaGreatDoor
open Go.RowKit Go.Lib
attribute [local go_sem ↓] Go.wp_at_zero Go.wp_at_succ
theorem prefix_one (c:UInt8) (l:LB_):Lib.hasPrefix l [c]=(match l with | a::_=>decide (a=c) | []=>false):=by
 cases l with
 | nil=>rfl
 | cons a l=>simp [Lib.hasPrefix,List.isPrefixOf,Bool.beq_eq_decide_eq,eq_comm]
theorem op_deep (gc:Nat) (r:Rd) (w:World) (h:RdAt w gc r) (hl:r.s.length<=1000000) {l:LB_} (hs:skipB r.s=40::l) (h0d:0<=r.deep) (h1d:r.deep<=1000000) (hv:ScalV w) (hg:Glob gc) (hd:16 < r.deep+1):Calls Tryz.prog 98 #[.pointer (some ⟨gc,0,none⟩)] w (OpPost gc Ex.zero true ((⟨skipB r.s,r.deep+1,r.bad⟩:Rd).fail 5) w):=by
 obtain ⟨rs,d,b⟩:=r
 simp only at hs hl
 have hgc:=Blk.lt h;have hb0:Below w.heap.size w (w.alloc (.cells zX 50)):=Below.new _ _;have H0:=h_ (RdAt.keep h hb0);have HX0:=h_ (show Blk (w.alloc (.cells zX 50)) w.heap.size 50 zX from Blk.new _ _ _);have HB0:=h_ (Bar.of (gc:=gc) hb0);have HV0:=h_ (hv.keep hb0);clear h;obtain ⟨W0,e0⟩:∃ z,z=w.alloc (.cells zX 50):=⟨_,rfl⟩;obtain ⟨n2,e2⟩:∃ z,z=w.heap.size:=⟨_,rfl⟩;rw [<-e0] at H0 HX0 HB0 HV0;rw [<-e2] at HX0
 have hn2g:n2≠gc:=by omega
 have E0:=h_ e0;have E2:=h_ e2;have HN2:=h_ (show w.heap.size<=n2 from Nat.le_of_eq e2.symm);clear e0 e2 hb0;unfold zX at *
 go_enter Tryz.func98,Tryz.ntmps98
 refine wp_seq_cut (fun K0 hK0=>?_)
 go_wp2_with fail
 refine hK0.out _ _ ?_
 rw [<-E0.out,<-E2.out];clear E0 hK0 K0;go_wp2_with fail
 refine (tskip gc ⟨rs,d,b⟩ _ H0.out).mono ?_
 rintro e w1 ⟨rfl,hrd,hbar⟩;rw [hs] at hrd;obtain ⟨s,hsl,hblk⟩:=hrd.open
 simp only [Rd.go] at hsl hblk
 have H1:=h_ hblk;have HX1:=h_ (hbar.blk HX0.out hn2g);have HB1:=h_ (HB0.out.trans hbar);have k0:=hblk.cell;have f0:=hblk.frozen;have l0:=hblk.lt;have k2:=HX1.out.cell;have f2:=HX1.out.frozen;have l2:=HX1.out.lt;have HV1:=h_ (HV0.out.bar hbar hg);clear hblk hbar hrd H0 HX0 HB0;obtain ⟨h0,hs0,hsz,hem⟩:=byte_head hsl
 have h0i:(0:Int) < s.size:=by omega
 have h256:=UInt8.toNat_lt s[0]
 have g34:((s[0].toNat:Int)==34)=false:=by rw [hs0];rfl
 have g45:((s[0].toNat:Int)==45)=false:=by rw [hs0];rfl
 have g48:¬ (48:Int)<=(s[0].toNat:Int):=by rw [hs0];decide
 have g46:((s[0].toNat:Int)==46)=false:=by rw [hs0];rfl
 have g36:((s[0].toNat:Int)==36)=false:=by rw [hs0];rfl
 have g40:((s[0].toNat:Int)==40)=true:=by rw [hs0];rfl
 have hw1:IntKind.i64.wrap (d+1)=d+1:=wrap_fit (by omega) (by omega);have HG1:=h_ H1.out.lt
 have hd2:(16:Int) < d+1:=by omega
 have HW2:=h_ (H1.out.s1 (.int .i64 (d+1)));have HX2:=h_ (HX1.out.far (p:=⟨gc,1,none⟩) hn2g (.int .i64 (d+1)));have HB2:=h_ (HB1.out.trans (Bar.set gc 1 (.int .i64 (d+1))));clear hd hsz;have HSL:=h_ hsl;clear hsl;go_wp2_with fail
 refine (tfail gc ⟨40::l,d+1,b⟩ 5 _ (RdAt.of HW2.out (show s=bs (40::l) from by rw [HSL.out]) rfl rfl)).mono ?_
 rintro e w8 ⟨rfl,hrd8,hbar8⟩;have HX8:=h_ (hbar8.blk HX2.out hn2g);have HR8:=h_ hrd8;have HB8:=h_ (HB2.out.trans hbar8);clear hrd8 hbar8;clear k0 f0 l0 k2 f2 l2;have k2:=HX8.out.cell;have f2:=HX8.out.frozen;have l2:=HX8.out.lt;go_wp2_with fail
 refine ret_cell2 (p:=2) (q:=3) (g:=n2) rfl rfl rfl (blk_set10 (w:=w8) HX8.out) Tryz.underlying50 (by kernel_rfl) rfl ?_
 exact ⟨_,rfl,repO_zero,HR8.out.bar (bar_set10 _ _ _ _ _ _ _ _ _ _ _ _) (Ne.symm hn2g),Bar.join HB8.out (bar_set10 _ _ _ _ _ _ _ _ _ _ _ _) HN2.out⟩
theorem op_open (gc:Nat) (r:Rd) (w:World) (h:RdAt w gc r) (hl:r.s.length<=1000000) {x:Ex} {r3:Rd} {l:LB_} (hs:skipB r.s=40::l) (h0d:0<=r.deep) (h1d:r.deep<=1000000) (hv:ScalV w) (hg:Glob gc) (hd:¬ 16 < r.deep+1) (HP:∀ W,RdAt W gc ⟨l,r.deep+1,r.bad⟩->ScalV W->Calls Tryz.prog 60 #[.pointer (some ⟨gc,0,none⟩)] W (ExPost gc x r3 W)) (h41:∀ q,skipB r3.s≠41::q):Calls Tryz.prog 98 #[.pointer (some ⟨gc,0,none⟩)] w (OpPost gc Ex.zero true ((r3.go (skipB r3.s)).fail 20) w):=by
 obtain ⟨rs,d,b⟩:=r
 simp only at hs hl
 have hgc:=Blk.lt h;have hb0:Below w.heap.size w (w.alloc (.cells zX 50)):=Below.new _ _;have H0:=h_ (RdAt.keep h hb0);have HX0:=h_ (show Blk (w.alloc (.cells zX 50)) w.heap.size 50 zX from Blk.new _ _ _);have HB0:=h_ (Bar.of (gc:=gc) hb0);have HV0:=h_ (hv.keep hb0);clear h;obtain ⟨W0,e0⟩:∃ z,z=w.alloc (.cells zX 50):=⟨_,rfl⟩;obtain ⟨n2,e2⟩:∃ z,z=w.heap.size:=⟨_,rfl⟩;rw [<-e0] at H0 HX0 HB0 HV0;rw [<-e2] at HX0
 have hn2g:n2≠gc:=by omega
 have E0:=h_ e0;have E2:=h_ e2;have HN2:=h_ (show w.heap.size<=n2 from Nat.le_of_eq e2.symm);clear e0 e2 hb0;unfold zX at *
 go_enter Tryz.func98,Tryz.ntmps98
 refine wp_seq_cut (fun K0 hK0=>?_)
 go_wp2_with fail
 refine hK0.out _ _ ?_
 rw [<-E0.out,<-E2.out];clear E0 hK0 K0;go_wp2_with fail
 refine (tskip gc ⟨rs,d,b⟩ _ H0.out).mono ?_
 rintro e w1 ⟨rfl,hrd,hbar⟩;rw [hs] at hrd;obtain ⟨s,hsl,hblk⟩:=hrd.open
 simp only [Rd.go] at hsl hblk
 have H1:=h_ hblk;have HX1:=h_ (hbar.blk HX0.out hn2g);have HB1:=h_ (HB0.out.trans hbar);have k0:=hblk.cell;have f0:=hblk.frozen;have l0:=hblk.lt;have k2:=HX1.out.cell;have f2:=HX1.out.frozen;have l2:=HX1.out.lt;have HV1:=h_ (HV0.out.bar hbar hg);clear hblk hbar hrd H0 HX0 HB0;obtain ⟨h0,hs0,hsz,hem⟩:=byte_head hsl
 have h0i:(0:Int) < s.size:=by omega
 have h256:=UInt8.toNat_lt s[0]
 have g34:((s[0].toNat:Int)==34)=false:=by rw [hs0];rfl
 have g45:((s[0].toNat:Int)==45)=false:=by rw [hs0];rfl
 have g48:¬ (48:Int)<=(s[0].toNat:Int):=by rw [hs0];decide
 have g46:((s[0].toNat:Int)==46)=false:=by rw [hs0];rfl
 have g36:((s[0].toNat:Int)==36)=false:=by rw [hs0];rfl
 have g40:((s[0].toNat:Int)==40)=true:=by rw [hs0];rfl
 have hw1:IntKind.i64.wrap (d+1)=d+1:=wrap_fit (by omega) (by omega);have HG1:=h_ H1.out.lt
 have hd2:¬ (16:Int) < d+1:=by omega
 have hz1:(1:Int)<=s.size:=by omega
 have HT1:=h_ (tail1 hsl);have HRD:=h_ (show RdAt ((w1.setCell ⟨gc,1,none⟩ (.int .i64 (d+1))).setCell ⟨gc,0,none⟩ (.string (s.extract 1 s.size))) gc ⟨l,d+1,b⟩ from RdAt.of ((H1.out.s1 _).s0 _) (tail1 hsl) rfl rfl);have HVD:=h_ ((HV1.out.bar (Bar.set gc 1 (.int .i64 (d+1))) hg).bar (Bar.set gc 0 (.string (s.extract 1 s.size))) hg);have HPP:=h_ HP;clear hd hsz HP;have HSL:=h_ hsl;clear hsl;go_wp2_with fail
 refine (HPP.out _ HRD.out HVD.out).mono ?_
 rintro e w3 ⟨cs,rfl,hx3,hrd3,hbar3⟩;obtain ⟨la,lc,ma,mc,sa,sc,aa,ac,rfl,hpx⟩:=hx3.1.inv;obtain ⟨r3s,r3d,r3b⟩:=r3
 simp only at h41 hrd3
 have hba:=Below.new w3 (.cells (aX x la lc ma mc sa sc aa ac) 50);have HX3:=h_ ((hbar3.blk ((HX1.out.far (p:=⟨gc,1,none⟩) hn2g _).far (p:=⟨gc,0,none⟩) hn2g _) hn2g).keep hba);have HB3:=h_ ((((HB1.out.trans (Bar.set gc 1 _)).trans (Bar.set gc 0 _)).trans hbar3).trans (Bar.of hba));have HR3:=h_ (hrd3.keep hba);have HY3:=h_ (show Blk (w3.alloc (.cells (aX x la lc ma mc sa sc aa ac) 50)) w3.heap.size 50 (aX x la lc ma mc sa sc aa ac) from Blk.new _ _ _);have HN1:=h_ (Nat.lt_of_lt_of_le HX1.out.lt (show w1.heap.size<=w3.heap.size from Nat.le_trans ((Bar.set gc 1 (.int .i64 (d+1))).trans (Bar.set gc 0 (.string (s.extract 1 s.size)))).size hbar3.size));have HN3:=h_ (((Bar.set (w:=w1) gc 1 (.int .i64 (d+1))).trans (Bar.set gc 0 (.string (s.extract 1 s.size)))).size);have HX0:=h_ (hx3.keep hba);have hl0:gc < w3.heap.size:=Blk.lt hrd3;clear hba hrd3 hbar3 hx3 hpx;clear k0 f0 l0 k2 f2 l2;unfold aX at *;go_upto_region 31 with fail;obtain ⟨WA,eA⟩:∃ z,z=w3.alloc (.cells #[.int .i64 x.kind,.int .i64 x.val.kind,.bool x.val.bool,.int .i64 x.val.int,.string x.val.str,.slice la x.val.list.length lc,.slice ma x.val.map.length mc,.string x.name,.slice sa x.steps.length sc,.slice aa x.args.length ac] 50):=⟨_,rfl⟩;obtain ⟨n9,e9⟩:∃ z,z=w3.heap.size:=⟨_,rfl⟩;rw [<-eA] at HX3 HB3 HR3 HY3 HX0;rw [<-e9] at HY3 HN1;rw [<-eA,<-e9]
 have hn9g:n9≠gc:=by omega
 have hn92:n9≠n2:=by have:=HN1.out;omega
 clear eA e9 hl0;go_wp2_with fail
 refine (tskip gc ⟨r3s,r3d,r3b⟩ _ HR3.out).mono ?_
 rintro e w4 ⟨rfl,hrd4,hbar4⟩
 simp only [Rd.go] at hrd4
 obtain ⟨s4,hs4,hblk4⟩:=hrd4.open
 simp only at hs4 hblk4
 have H4:=h_ hblk4;have HX4:=h_ (hbar4.blk HX3.out hn2g);have HY4:=h_ (hbar4.blk HY3.out hn9g);have HB4:=h_ (HB3.out.trans hbar4);have HR4:=h_ hrd4;have HX5:=h_ (show RepO w4 w1.heap.size _ _ from HX0.out.mono HN3.out (fun b hb hlt=>hbar4.block b hlt (by have h1:=HG1.out;have h2:=HN3.out;omega)));clear hbar4 hrd4;have k0:=hblk4.cell;have f0:=hblk4.frozen;have l0:=hblk4.lt;have k2:=HX4.out.cell;have f2:=HX4.out.frozen;have l2:=HX4.out.lt;have k9:=HY4.out.cell;have f9:=HY4.out.frozen;have l9:=HY4.out.lt;clear hblk4
 have hp4:Lib.hasPrefix s4.data.toList [41]=false:=by
  rw [<-hs4,prefix_one]
  cases h9:skipB r3s with
  | nil=>rfl
  | cons a q=>exact decide_eq_false (fun e=>h41 q (by rw [h9,e]))
 have HSK:=h_ hs4;clear hs4;go_wp2_with fail
 refine (tprefix s4 ⟨#[41]⟩ _).mono ?_
 rintro e w5 ⟨rfl,rfl⟩;rw [show (⟨#[41]⟩:ByteArray).data.toList=[41] from rfl,hp4];clear hp4;go_wp2_with fail
 refine (tfail gc ⟨skipB r3s,r3d,r3b⟩ 20 _ (RdAt.of H4.out (show s4=bs (skipB r3s) from by rw [HSK.out]) rfl rfl)).mono ?_
 rintro e w8 ⟨rfl,hrd8,hbar8⟩;have HX8:=h_ (hbar8.blk HX4.out hn2g);have HR8:=h_ hrd8;have HB8:=h_ (HB4.out.trans hbar8);clear hrd8 hbar8;clear k0 f0 l0 k2 f2 l2;have k2:=HX8.out.cell;have f2:=HX8.out.frozen;have l2:=HX8.out.lt;go_wp2_with fail
 refine ret_cell2 (p:=2) (q:=3) (g:=n2) rfl rfl rfl (blk_set10 (w:=w8) HX8.out) Tryz.underlying50 (by kernel_rfl) rfl ?_
 exact ⟨_,rfl,repO_zero,HR8.out.bar (bar_set10 _ _ _ _ _ _ _ _ _ _ _ _) (Ne.symm hn2g),Bar.join HB8.out (bar_set10 _ _ _ _ _ _ _ _ _ _ _ _) HN2.out⟩
theorem op_paren (gc:Nat) (r:Rd) (w:World) (h:RdAt w gc r) (hl:r.s.length<=1000000) {x:Ex} {r3:Rd} {l:LB_} (hs:skipB r.s=40::l) (h0d:0<=r.deep) (h1d:r.deep<=1000000) (hv:ScalV w) (hg:Glob gc) {q:LB_} (hd:¬ 16 < r.deep+1) (HP:∀ W,RdAt W gc ⟨l,r.deep+1,r.bad⟩->ScalV W->Calls Tryz.prog 60 #[.pointer (some ⟨gc,0,none⟩)] W (ExPost gc x r3 W)) (h41:skipB r3.s=41::q) (hb3:0<=r3.deep) (hb4:r3.deep<=1000000):Calls Tryz.prog 98 #[.pointer (some ⟨gc,0,none⟩)] w (OpPost gc x true ⟨q,r3.deep - 1,r3.bad⟩ w):=by
 obtain ⟨rs,d,b⟩:=r
 simp only at hs hl
 have hgc:=Blk.lt h;have hb0:Below w.heap.size w (w.alloc (.cells zX 50)):=Below.new _ _;have H0:=h_ (RdAt.keep h hb0);have HX0:=h_ (show Blk (w.alloc (.cells zX 50)) w.heap.size 50 zX from Blk.new _ _ _);have HB0:=h_ (Bar.of (gc:=gc) hb0);have HV0:=h_ (hv.keep hb0);clear h;obtain ⟨W0,e0⟩:∃ z,z=w.alloc (.cells zX 50):=⟨_,rfl⟩;obtain ⟨n2,e2⟩:∃ z,z=w.heap.size:=⟨_,rfl⟩;rw [<-e0] at H0 HX0 HB0 HV0;rw [<-e2] at HX0
 have hn2g:n2≠gc:=by omega
 have E0:=h_ e0;have E2:=h_ e2;have HN2:=h_ (show w.heap.size<=n2 from Nat.le_of_eq e2.symm);clear e0 e2 hb0;unfold zX at *
 go_enter Tryz.func98,Tryz.ntmps98
 refine wp_seq_cut (fun K0 hK0=>?_)
 go_wp2_with fail
 refine hK0.out _ _ ?_
 rw [<-E0.out,<-E2.out];clear E0 hK0 K0;go_wp2_with fail
 refine (tskip gc ⟨rs,d,b⟩ _ H0.out).mono ?_
 rintro e w1 ⟨rfl,hrd,hbar⟩;rw [hs] at hrd;obtain ⟨s,hsl,hblk⟩:=hrd.open
 simp only [Rd.go] at hsl hblk
 have H1:=h_ hblk;have HX1:=h_ (hbar.blk HX0.out hn2g);have HB1:=h_ (HB0.out.trans hbar);have k0:=hblk.cell;have f0:=hblk.frozen;have l0:=hblk.lt;have k2:=HX1.out.cell;have f2:=HX1.out.frozen;have l2:=HX1.out.lt;have HV1:=h_ (HV0.out.bar hbar hg);clear hblk hbar hrd H0 HX0 HB0;obtain ⟨h0,hs0,hsz,hem⟩:=byte_head hsl
 have h0i:(0:Int) < s.size:=by omega
 have h256:=UInt8.toNat_lt s[0]
 have g34:((s[0].toNat:Int)==34)=false:=by rw [hs0];rfl
 have g45:((s[0].toNat:Int)==45)=false:=by rw [hs0];rfl
 have g48:¬ (48:Int)<=(s[0].toNat:Int):=by rw [hs0];decide
 have g46:((s[0].toNat:Int)==46)=false:=by rw [hs0];rfl
 have g36:((s[0].toNat:Int)==36)=false:=by rw [hs0];rfl
 have g40:((s[0].toNat:Int)==40)=true:=by rw [hs0];rfl
 have hw1:IntKind.i64.wrap (d+1)=d+1:=wrap_fit (by omega) (by omega);have HG1:=h_ H1.out.lt
 have hd2:¬ (16:Int) < d+1:=by omega
 have hz1:(1:Int)<=s.size:=by omega
 have HT1:=h_ (tail1 hsl);have HRD:=h_ (show RdAt ((w1.setCell ⟨gc,1,none⟩ (.int .i64 (d+1))).setCell ⟨gc,0,none⟩ (.string (s.extract 1 s.size))) gc ⟨l,d+1,b⟩ from RdAt.of ((H1.out.s1 _).s0 _) (tail1 hsl) rfl rfl);have HVD:=h_ ((HV1.out.bar (Bar.set gc 1 (.int .i64 (d+1))) hg).bar (Bar.set gc 0 (.string (s.extract 1 s.size))) hg);have HPP:=h_ HP;clear hd hsz HP;have HSL:=h_ hsl;clear hsl;go_wp2_with fail
 refine (HPP.out _ HRD.out HVD.out).mono ?_
 rintro e w3 ⟨cs,rfl,hx3,hrd3,hbar3⟩;obtain ⟨la,lc,ma,mc,sa,sc,aa,ac,rfl,hpx⟩:=hx3.1.inv;obtain ⟨r3s,r3d,r3b⟩:=r3
 simp only at h41 hrd3 hb3 hb4
 have hba:=Below.new w3 (.cells (aX x la lc ma mc sa sc aa ac) 50);have HX3:=h_ ((hbar3.blk ((HX1.out.far (p:=⟨gc,1,none⟩) hn2g _).far (p:=⟨gc,0,none⟩) hn2g _) hn2g).keep hba);have HB3:=h_ ((((HB1.out.trans (Bar.set gc 1 _)).trans (Bar.set gc 0 _)).trans hbar3).trans (Bar.of hba));have HR3:=h_ (hrd3.keep hba);have HY3:=h_ (show Blk (w3.alloc (.cells (aX x la lc ma mc sa sc aa ac) 50)) w3.heap.size 50 (aX x la lc ma mc sa sc aa ac) from Blk.new _ _ _);have HN1:=h_ (Nat.lt_of_lt_of_le HX1.out.lt (show w1.heap.size<=w3.heap.size from Nat.le_trans ((Bar.set gc 1 (.int .i64 (d+1))).trans (Bar.set gc 0 (.string (s.extract 1 s.size)))).size hbar3.size));have HN3:=h_ (((Bar.set (w:=w1) gc 1 (.int .i64 (d+1))).trans (Bar.set gc 0 (.string (s.extract 1 s.size)))).size);have HX0:=h_ (hx3.keep hba);have hl0:gc < w3.heap.size:=Blk.lt hrd3;clear hba hrd3 hbar3 hx3 hpx;clear k0 f0 l0 k2 f2 l2;unfold aX at *;go_upto_region 31 with fail;obtain ⟨WA,eA⟩:∃ z,z=w3.alloc (.cells #[.int .i64 x.kind,.int .i64 x.val.kind,.bool x.val.bool,.int .i64 x.val.int,.string x.val.str,.slice la x.val.list.length lc,.slice ma x.val.map.length mc,.string x.name,.slice sa x.steps.length sc,.slice aa x.args.length ac] 50):=⟨_,rfl⟩;obtain ⟨n9,e9⟩:∃ z,z=w3.heap.size:=⟨_,rfl⟩;rw [<-eA] at HX3 HB3 HR3 HY3 HX0;rw [<-e9] at HY3 HN1;rw [<-eA,<-e9]
 have hn9g:n9≠gc:=by omega
 have hn92:n9≠n2:=by have:=HN1.out;omega
 clear eA e9 hl0;go_wp2_with fail
 refine (tskip gc ⟨r3s,r3d,r3b⟩ _ HR3.out).mono ?_
 rintro e w4 ⟨rfl,hrd4,hbar4⟩
 simp only [Rd.go] at hrd4
 rw [h41] at hrd4;obtain ⟨s4,hs4,hblk4⟩:=hrd4.open
 simp only at hs4 hblk4
 have H4:=h_ hblk4;have HX4:=h_ (hbar4.blk HX3.out hn2g);have HY4:=h_ (hbar4.blk HY3.out hn9g);have HB4:=h_ (HB3.out.trans hbar4);have HR4:=h_ hrd4;have HX5:=h_ (show RepO w4 w1.heap.size _ _ from HX0.out.mono HN3.out (fun b hb hlt=>hbar4.block b hlt (by have h1:=HG1.out;have h2:=HN3.out;omega)));clear hbar4 hrd4;have k0:=hblk4.cell;have f0:=hblk4.frozen;have l0:=hblk4.lt;have k2:=HX4.out.cell;have f2:=HX4.out.frozen;have l2:=HX4.out.lt;have k9:=HY4.out.cell;have f9:=HY4.out.frozen;have l9:=HY4.out.lt;clear hblk4;obtain ⟨h04,hs04,hsz4,hem4⟩:=byte_head hs4
 have hp4:Lib.hasPrefix s4.data.toList [41]=true:=by rw [<-hs4,prefix_one];rfl
 have hz4:(1:Int)<=s4.size:=by omega
 have HT4:=h_ (tail1 hs4);have hw2:IntKind.i64.wrap (r3d - 1)=r3d - 1:=wrap_fit (by omega) (by omega);clear hs4 hsz4 hs04 hem4;go_wp2_with fail
 refine (tprefix s4 ⟨#[41]⟩ _).mono ?_
 rintro e w5 ⟨rfl,rfl⟩;rw [show (⟨#[41]⟩:ByteArray).data.toList=[41] from rfl,hp4];clear hp4;go_wp2_with fail
 refine ret_cell2 (p:=2) (q:=3) (g:=n2) rfl rfl rfl (blk_set10 (w:=(w4.setCell ⟨gc,1,none⟩ (.int .i64 (r3d - 1))).setCell ⟨gc,0,none⟩ (.string (s4.extract 1 s4.size))) ((HX4.out.far (p:=⟨gc,1,none⟩) hn2g _).far (p:=⟨gc,0,none⟩) hn2g _)) Tryz.underlying50 (by kernel_rfl) rfl ?_
 refine ⟨_,rfl,HX5.out.mono HB1.out.size (fun b hb hlt=>?_),RdAt.bar (RdAt.of (r:=⟨q,r3d - 1,r3b⟩) ((H4.out.s1 _).s0 _) HT4.out rfl rfl) (bar_set10 _ _ _ _ _ _ _ _ _ _ _ _) (Ne.symm hn2g),Bar.join ((HB4.out.trans (Bar.set gc 1 _)).trans (Bar.set gc 0 _)) (bar_set10 _ _ _ _ _ _ _ _ _ _ _ _) HN2.out⟩
 have hne:b≠n2:=by have h1:=HX1.out.lt;omega
 have hng:b≠gc:=by have h1:=HG1.out;omega
 exact (Bar.block (bar_set10 _ _ _ _ _ _ _ _ _ _ _ _) b (Nat.lt_of_lt_of_le hlt ((Bar.set gc 1 (.int .i64 (r3d - 1))).trans (Bar.set gc 0 (.string (s4.extract 1 s4.size)))).size) hne).trans (Bar.block ((Bar.set gc 1 (.int .i64 (r3d - 1))).trans (Bar.set gc 0 (.string (s4.extract 1 s4.size)))) b hlt hng)
end Go.Proofs.YtnblmhfgmehnnaaGreatDoor
namespace Go.Proofs.YtnblmhfgmehnnaaGreatDoor
structure Rd.Le (r r':Rd):Prop where
 len:r'.s.length<=r.s.length
 low:r.deep<=r'.deep
 sum:r'.deep+r'.s.length<=r.deep+r.s.length
theorem Rd.Le.refl (r:Rd):r.Le r:=⟨Nat.le_refl _,Int.le_refl _,Int.le_refl _⟩
theorem Rd.Le.trans {a b c:Rd} (h:a.Le b) (k:b.Le c):a.Le c:=⟨Nat.le_trans k.len h.len,Int.le_trans h.low k.low,Int.le_trans k.sum h.sum⟩
theorem Rd.Le.fail (r:Rd) (e:Int):r.Le (r.fail e):=⟨by simp [Rd.fail],by simp [Rd.fail],by simp [Rd.fail];omega⟩
theorem Rd.Le.go {r:Rd} {s:LB_} (h:s.length<=r.s.length):r.Le (r.go s):=⟨h,Int.le_refl _,by simp [Rd.go];omega⟩
theorem plain_none {r:Rd} (h:plainOp r=none):∃ l,skipB r.s=40::l:=by
 unfold plainOp at h
 cases hs:skipB r.s with
 | nil=>rw [hs] at h;cases h
 | cons c l=>
  rw [hs] at h
  simp only at h
  by_cases h40:c=40
  ·exact ⟨l,by rw [h40]⟩
  ·exfalso
   split at h
   ·split at h <;>cases h
   ·split at h
    ·split at h <;>cases h
    ·split at h
     ·split at h <;>cases h
     ·split at h
      ·split at h <;>cases h
      ·try rw [if_neg h40] at h
       split at h
       ·split at h
        ·cases h
        ·split at h
         ·cases h
         ·split at h <;>cases h
       ·cases h
theorem plain_le {r:Rd} {q:(Ex × Bool) × Rd} (h:plainOp r=some q):r.Le q.2/\(q.1.2=true->q.2.s.length < r.s.length):=by
 have hk:=skip_len r.s;unfold plainOp at h
 cases hs:skipB r.s with
 | nil=>
  rw [hs] at h
  simp only [Option.some.injEq] at h
  subst h
  exact ⟨Rd.Le.go (by simp),fun e=>by cases e⟩
 | cons c l=>
  rw [hs] at h hk
  simp only [List.length_cons] at h hk
  have fails:∀ (s:LB_) (e:Int),s.length<=r.s.length->r.Le ((r.go s).fail e)/\(true=true->((r.go s).fail e).s.length < r.s.length):=fun s e h9=>⟨(Rd.Le.go h9).trans (Rd.Le.fail _ _),fun _=>by simp [Rd.fail];omega⟩
  have goes:∀ (s:LB_),s.length < r.s.length->r.Le (r.go s)/\(true=true->(r.go s).s.length < r.s.length):=fun s h9=>⟨Rd.Le.go (by omega),fun _=>h9⟩
  split at h
  ·split at h
   ·next hu=>
    simp only [Option.some.injEq] at h
    subst h
    have:=unq_len hu
    simp only [List.length_cons] at this
    exact goes _ (by omega)
   ·simp only [Option.some.injEq] at h
    subst h
    exact fails _ _ (by simp only [List.length_cons];omega)
  ·split at h
   ·split at h
    ·simp only [Option.some.injEq] at h
     subst h
     have h9:1<=numK (c::l):=by unfold numK;omega
     exact goes _ (by rw [List.length_drop,List.length_cons];omega)
    ·simp only [Option.some.injEq] at h
     subst h
     exact fails _ _ (by simp only [List.length_cons];omega)
   ·split at h
    ·split at h
     ·next hst=>
      simp only [Option.some.injEq] at h
      subst h;have h9:=steps_len (l.length+1) (c::l);rw [hst] at h9
      simp only [List.length_cons,List.length_nil] at h9
      exact goes _ (by rw [List.length_drop];omega)
     ·next hst=>
      simp only [Option.some.injEq] at h
      subst h;have h9:=steps_len (l.length+1) (c::l);rw [hst] at h9
      simp only [List.length_cons] at h9
      exact goes _ (by omega)
    ·split at h
     ·split at h
      ·simp only [Option.some.injEq] at h
       subst h
       exact fails _ _ (by omega)
      ·simp only [Option.some.injEq] at h
       subst h;have h9:=steps_len (l.length+1) (nameD l);have h8:=nameD_len l
       exact goes _ (by omega)
     ·split at h
      ·cases h
      ·split at h
       ·next hc=>
        have h9:=nameD_len (c::l)
        have h8:0 < nameK (c::l):=by rw [nameK,if_pos hc];omega
        simp only [List.length_cons] at h9
        split at h
        ·simp only [Option.some.injEq] at h
         subst h
         exact goes _ (by omega)
        ·split at h
         ·simp only [Option.some.injEq] at h
          subst h
          exact goes _ (by omega)
         ·split at h
          ·simp only [Option.some.injEq] at h
           subst h
           exact goes _ (by omega)
          ·simp only [Option.some.injEq] at h
           subst h
           exact ⟨Rd.Le.go (by simp only [List.length_cons];omega),fun e=>by cases e⟩
       ·simp only [Option.some.injEq] at h
        subst h
        exact ⟨Rd.Le.go (by simp only [List.length_cons];omega),fun e=>by cases e⟩
theorem nameD_le (l:LB_):(nameD l).length<=l.length:=by have:=nameD_len l;omega
theorem le_all (n:Nat):(∀ r:Rd,r.Le (operandF n r).2/\((operandF n r).1.2=true->(operandF n r).2.s.length < r.s.length))/\(∀ r:Rd,r.Le (commandF n r).2)/\(∀ (x:Ex) (r:Rd),r.Le (argsF n x r).2)/\(∀ r:Rd,r.Le (pipeF n r).2)/\(∀ (x:Ex) (r:Rd),r.Le (barsF n x r).2):=by
 induction n with
 | zero=>exact ⟨fun r=>⟨by rw [operandF];exact Rd.Le.refl _,fun e=>by rw [operandF] at e;cases e⟩,fun r=>by rw [commandF];exact Rd.Le.refl _,fun x r=>by rw [argsF];exact Rd.Le.refl _,fun r=>by rw [pipeF];exact Rd.Le.refl _,fun x r=>by rw [barsF];exact Rd.Le.refl _⟩
 | succ n ih=>
  obtain ⟨ho,hc,ha,hp,hb⟩:=ih
  refine ⟨fun r=>?_,fun r=>?_,fun x r=>?_,fun r=>?_,fun x r=>?_⟩
  ·rw [operandF]
   cases hpl:plainOp r with
   | some q=>exact plain_le hpl
   | none=>
    obtain ⟨l,hs⟩:=plain_none hpl;have hk:=skip_len r.s;rw [hs,List.length_cons] at hk
    simp only
    by_cases hd:16 < r.deep+1
    ·rw [if_pos hd]
     exact ⟨⟨by simp [Rd.fail],by simp [Rd.fail];omega,by simp [Rd.fail];omega⟩,fun _=>by simp [Rd.fail];omega⟩
    ·rw [if_neg hd,hs,List.drop_succ_cons,List.drop_zero]
     have h1:=hp ⟨l,r.deep+1,r.bad⟩;obtain ⟨h2,h3,h4⟩:=h1
     simp only at h2 h3 h4
     have hk2:=skip_len (pipeF n ⟨l,r.deep+1,r.bad⟩).2.s
     split
     ·next q hq=>
      rw [hq,List.length_cons] at hk2
      exact ⟨⟨by simp only;omega,by simp only;omega,by simp only;omega⟩,fun _=>by simp only;omega⟩
     ·exact ⟨⟨by simp [Rd.fail],by simp [Rd.fail,Rd.go];omega,by simp [Rd.fail,Rd.go];omega⟩,fun _=>by simp [Rd.fail];omega⟩
  ·rw [commandF]
   have h1:=(ho r).1
   split
   ·exact h1
   ·split
    ·exact h1.trans (Rd.Le.fail _ _)
    ·exact h1.trans ((Rd.Le.go (nameD_le _)).trans (ha _ _))
  ·rw [argsF]
   have h1:=(ho r).1
   split
   ·exact h1.trans (ha _ _)
   ·split
    ·exact h1
    ·exact h1.trans ((Rd.Le.go (nameD_le _)).trans (ha _ _))
  ·rw [pipeF]
   exact (hc r).trans (hb _ _)
  ·rw [barsF]
   have hk:=skip_len r.s
   split
   ·next l hl=>
    rw [hl,List.length_cons] at hk;have h0:r.Le (r.go l):=Rd.Le.go (by omega)
    simp only
    split
    ·exact (h0.trans (hc _)).trans (Rd.Le.fail _ _)
    ·exact (h0.trans (hc _)).trans (hb _ _)
   ·exact Rd.Le.go hk
end Go.Proofs.YtnblmhfgmehnnaaGreatDoor
namespace Go.Proofs.YtnblmhfgmehnnaaGreatDoor
open Go.RowKit Go.Lib
attribute [local go_sem ↓] Go.wp_at_zero Go.wp_at_succ
structure Rd.Big (r:Rd):Prop where
 len:r.s.length<=1000000
 low:0<=r.deep
 sum:r.deep+r.s.length<=1000000
theorem Rd.Big.le {r r':Rd} (h:r.Big) (k:r.Le r'):r'.Big:=⟨Nat.le_trans k.len h.len,Int.le_trans h.low k.low,Int.le_trans k.sum h.sum⟩
theorem own_snocX {w:World} {B:Nat} {S:Nat->Prop} {A:OA_} {c:Nat} {l:List Ex} {x:Ex} {cs:List Value} (h:OwnE eltX w B S A c l) (hx:RepX w (fun b=>S b/\Value.ownBlock (.slice A l.length c)≠some b) cs x) (hB:B<=w.heap.size) (hl:l.length<=1000000):
  ∃ A' c' w',(Builtin.append_ #[48,48] 48 #[.slice A l.length c,.slice (some ⟨w.heap.size,0,none⟩) 1 1]).run Tryz.prog (w.alloc (.cells cs.toArray 50))=.ok (.slice A' (l++[x]).length c') w'/\OwnE eltX w' B S A' c' (l++[x])/\(w.alloc (.cells cs.toArray 50)).grownBy w' (Value.ownBlock (.slice A l.length c)):=by
 have ha:Below w.heap.size w (w.alloc (.cells cs.toArray 50)):=Below.new _ _
 exact own_append (E:=eltX) (l2:=[x]) (es:=cs) (ad:=⟨w.heap.size,0,none⟩) (cc:=1) (ty:=48) (t:=48) rfl (h.keep ha) (by show (l.length+1)*160<=_;omega) (by simp;unfold maxLen;omega) (by simp;omega) (by rw [hx.len];rfl)
  (fun j u hu=>by rw [show (⟨w.heap.size,0,none⟩:Addr).add j=⟨w.heap.size,0+j,none⟩ from by unfold Addr.add;split <;>simp_all,Nat.zero_add,(Blk.new w 50 cs.toArray).cell];simpa using hu)
  (fun i hi=>by
   obtain rfl:i=0:=by simpa using hi
   have h10:=hx.len;rw [show (eltX).sz=10 from rfl,Nat.zero_mul,List.drop_zero,List.take_of_length_le (by omega)]
   exact hx.keep ha)
theorem Blk.grow {wr w':World} {g ty:Nat} {cs:Array Value} {o:Obj} {row:Option Nat} (h:Blk wr g ty cs) (k:(wr.alloc o).grownBy w' row) (hr:row≠some g):Blk w' g ty cs:=
 (k.block g (Nat.lt_of_lt_of_le h.lt (by simp)) (fun e=>hr e.symm)).trans ((Below.new wr o).block g h.lt |>.trans h)
theorem own_repXs {w:World} {B c:Nat} {A:OA_} {l:List Ex} (h:OwnE eltX w B (fun b=>B<=b) A c l):RepXs w (fun b=>B<=b) A l:=RepE.weak (E:=eltX) h.rep (fun _ hb _=>hb.elim id id)
theorem own_roomX {w:World} {B:Nat} {S:Nat->Prop} {A:OA_} {c:Nat} {l:List Ex} (h:OwnE eltX w B S A c l) (hl:l.length<=1000000):Room l.length c 160:=⟨h.len.1,h.len.2,by omega⟩
theorem repX_call {w:World} {S:Nat->Prop} {nm:ByteArray} {aa:OA_} {ac:Nat} {l:List Ex} (hn:nm.size<=140737488351232) (hr:Room l.length ac 160) (ha:RepXs w S aa l):RepX w S [.int .i64 3,.int .i64 0,.bool false,.int .i64 0,.string ⟨#[]⟩,.slice none 0 0,.slice none 0 0,.string nm,.slice none 0 0,.slice aa l.length ac] (Ex.call nm l):=
 RepX.of (x:=Ex.call nm l) (la:=none) (lc:=0) (ma:=none) (mc:=0) (sa:=none) (sc:=0) (aa:=aa) (ac:=ac) ⟨(show i64ok 3 by unfold i64ok;omega),rep_zero _ _,hn,RepS.nil',Room.nil _,hr,ha⟩
theorem repO_call {w:World} {B:Nat} {nm:ByteArray} {A:OA_} {c:Nat} {l:List Ex} (hn:nm.size<=140737488351232) (hl:l.length<=1000000) (h:OwnE eltX w B (fun b=>B<=b) A c l):RepO w B [.int .i64 3,.int .i64 0,.bool false,.int .i64 0,.string ⟨#[]⟩,.slice none 0 0,.slice none 0 0,.string nm,.slice none 0 0,.slice A l.length c] (Ex.call nm l):=
 ⟨repX_call hn (own_roomX h hl) (own_repXs h),none,0,none,0,none,0,A,c,rfl,h.low (Nat.zero_le _),fun g hg=>(h.own g hg).1,rep_zero _ _,RepS.nil'⟩
theorem co_plain (gc:Nat) (r:Rd) (w:World) (h:RdAt w gc r) (hv:ScalV w) (hg:Glob gc) {x:Ex} {r1:Rd} (HO:∀ W,RdAt W gc r->ScalV W->Calls Tryz.prog 98 #[.pointer (some ⟨gc,0,none⟩)] W (OpPost gc x true r1 W)):Calls Tryz.prog 83 #[.pointer (some ⟨gc,0,none⟩)] w (ExPost gc x r1 w):=by
 have hgc:=Blk.lt h;have hb0:Below w.heap.size w (w.alloc (.cells zX 50)):=Below.new _ _;have H0:=h_ (RdAt.keep h hb0);have HX0:=h_ (show Blk (w.alloc (.cells zX 50)) w.heap.size 50 zX from Blk.new _ _ _);have HB0:=h_ (Bar.of (gc:=gc) hb0);have HV0:=h_ (hv.keep hb0);clear h;obtain ⟨W0,e0⟩:∃ z,z=w.alloc (.cells zX 50):=⟨_,rfl⟩;obtain ⟨n2,e2⟩:∃ z,z=w.heap.size:=⟨_,rfl⟩;rw [<-e0] at H0 HX0 HB0 HV0;rw [<-e2] at HX0
 have hn2g:n2≠gc:=by omega
 have E0:=h_ e0;have E2:=h_ e2;have HN2:=h_ (show w.heap.size<=n2 from Nat.le_of_eq e2.symm);clear e0 e2 hb0;unfold zX at *
 go_enter Tryz.func83,Tryz.ntmps83
 refine wp_seq_cut (fun K0 hK0=>?_)
 go_wp2_with fail
 refine hK0.out _ _ ?_
 rw [<-E0.out,<-E2.out];clear E0 hK0 K0;have HOH:=h_ HO;clear HO;go_wp2_with fail
 refine (HOH.out _ H0.out HV0.out).mono ?_
 rintro e w1 ⟨cs,rfl,hx1,hrd1,hbar1⟩;obtain ⟨la,lc,ma,mc,sa,sc,aa,ac,rfl, -⟩:=hx1.1.inv;have hba:=Below.new w1 (.cells (aX x la lc ma mc sa sc aa ac) 50);have HX1:=h_ ((hbar1.blk HX0.out hn2g).keep hba);have HB1:=h_ ((HB0.out.trans hbar1).trans (Bar.of hba));have HR1:=h_ (hrd1.keep hba);have HXX:=h_ (hx1.keep hba);have HV1:=h_ ((HV0.out.bar hbar1 hg).keep hba);have HY1:=h_ (show Blk (w1.alloc (.cells (aX x la lc ma mc sa sc aa ac) 50)) w1.heap.size 50 (aX x la lc ma mc sa sc aa ac) from Blk.new _ _ _);have HN1:=h_ HX0.out.lt;have HS1:=h_ hbar1.size;have hl0:gc < w1.heap.size:=Blk.lt hrd1;have hl2:n2 < w1.heap.size:=Nat.lt_of_lt_of_le HX0.out.lt hbar1.size;clear hba hrd1 hbar1 hx1;unfold aX at *;go_upto_region 2 with fail;obtain ⟨WA,eA⟩:∃ z,z=w1.alloc (.cells #[.int .i64 x.kind,.int .i64 x.val.kind,.bool x.val.bool,.int .i64 x.val.int,.string x.val.str,.slice la x.val.list.length lc,.slice ma x.val.map.length mc,.string x.name,.slice sa x.steps.length sc,.slice aa x.args.length ac] 50):=⟨_,rfl⟩;obtain ⟨n3,e3⟩:∃ z,z=w1.heap.size:=⟨_,rfl⟩;rw [<-eA] at HX1 HB1 HR1 HY1 HXX HV1;rw [<-e3] at HY1 HS1 hl0 hl2;rw [<-eA,<-e3]
 have hn3g:n3≠gc:=by omega
 have hn32:n3≠n2:=by omega
 clear eA e3;have k2:=HX1.out.cell;have f2:=HX1.out.frozen;have l2:=HX1.out.lt;have k3:=HY1.out.cell;have f3:=HY1.out.frozen;have l3:=HY1.out.lt;go_wp2_with fail
 refine ret_cell (p:=2) (g:=n2) rfl rfl (blk_set10 (w:=WA) HX1.out) Tryz.underlying50 (by kernel_rfl) rfl ?_
 refine ⟨_,rfl,HXX.out.mono HB0.out.size (fun b hb hlt=>?_),HR1.out.bar (bar_set10 _ _ _ _ _ _ _ _ _ _ _ _) (Ne.symm hn2g),Bar.join HB1.out (bar_set10 _ _ _ _ _ _ _ _ _ _ _ _) HN2.out⟩
 exact Bar.block (bar_set10 _ _ _ _ _ _ _ _ _ _ _ _) b hlt (by have h1:=HN1.out;omega)
theorem co_none (gc:Nat) (r:Rd) (w:World) (h:RdAt w gc r) (hv:ScalV w) (hg:Glob gc) {x:Ex} {r1:Rd} (HO:∀ W,RdAt W gc r->ScalV W->Calls Tryz.prog 98 #[.pointer (some ⟨gc,0,none⟩)] W (OpPost gc x false r1 W)) (hl:r1.s.length<=1000000) (hk:nameK r1.s=0):Calls Tryz.prog 83 #[.pointer (some ⟨gc,0,none⟩)] w (ExPost gc Ex.zero (r1.fail 20) w):=by
 have hgc:=Blk.lt h;have hb0:Below w.heap.size w (w.alloc (.cells zX 50)):=Below.new _ _;have H0:=h_ (RdAt.keep h hb0);have HX0:=h_ (show Blk (w.alloc (.cells zX 50)) w.heap.size 50 zX from Blk.new _ _ _);have HB0:=h_ (Bar.of (gc:=gc) hb0);have HV0:=h_ (hv.keep hb0);clear h;obtain ⟨W0,e0⟩:∃ z,z=w.alloc (.cells zX 50):=⟨_,rfl⟩;obtain ⟨n2,e2⟩:∃ z,z=w.heap.size:=⟨_,rfl⟩;rw [<-e0] at H0 HX0 HB0 HV0;rw [<-e2] at HX0
 have hn2g:n2≠gc:=by omega
 have E0:=h_ e0;have E2:=h_ e2;have HN2:=h_ (show w.heap.size<=n2 from Nat.le_of_eq e2.symm);clear e0 e2 hb0;unfold zX at *
 go_enter Tryz.func83,Tryz.ntmps83
 refine wp_seq_cut (fun K0 hK0=>?_)
 go_wp2_with fail
 refine hK0.out _ _ ?_
 rw [<-E0.out,<-E2.out];clear E0 hK0 K0;have HOH:=h_ HO;clear HO;go_wp2_with fail
 refine (HOH.out _ H0.out HV0.out).mono ?_
 rintro e w1 ⟨cs,rfl,hx1,hrd1,hbar1⟩;obtain ⟨la,lc,ma,mc,sa,sc,aa,ac,rfl, -⟩:=hx1.1.inv;have hba:=Below.new w1 (.cells (aX x la lc ma mc sa sc aa ac) 50);have HX1:=h_ ((hbar1.blk HX0.out hn2g).keep hba);have HB1:=h_ ((HB0.out.trans hbar1).trans (Bar.of hba));have HR1:=h_ (hrd1.keep hba);have HXX:=h_ (hx1.keep hba);have HV1:=h_ ((HV0.out.bar hbar1 hg).keep hba);have HY1:=h_ (show Blk (w1.alloc (.cells (aX x la lc ma mc sa sc aa ac) 50)) w1.heap.size 50 (aX x la lc ma mc sa sc aa ac) from Blk.new _ _ _);have HN1:=h_ HX0.out.lt;have HS1:=h_ hbar1.size;have hl0:gc < w1.heap.size:=Blk.lt hrd1;have hl2:n2 < w1.heap.size:=Nat.lt_of_lt_of_le HX0.out.lt hbar1.size;clear hba hrd1 hbar1 hx1;unfold aX at *;go_upto_region 2 with fail;obtain ⟨WA,eA⟩:∃ z,z=w1.alloc (.cells #[.int .i64 x.kind,.int .i64 x.val.kind,.bool x.val.bool,.int .i64 x.val.int,.string x.val.str,.slice la x.val.list.length lc,.slice ma x.val.map.length mc,.string x.name,.slice sa x.steps.length sc,.slice aa x.args.length ac] 50):=⟨_,rfl⟩;obtain ⟨n3,e3⟩:∃ z,z=w1.heap.size:=⟨_,rfl⟩;rw [<-eA] at HX1 HB1 HR1 HY1 HXX HV1;rw [<-e3] at HY1 HS1 hl0 hl2;rw [<-eA,<-e3]
 have hn3g:n3≠gc:=by omega
 have hn32:n3≠n2:=by omega
 clear eA e3;have k2:=HX1.out.cell;have f2:=HX1.out.frozen;have l2:=HX1.out.lt;have k3:=HY1.out.cell;have f3:=HY1.out.frozen;have l3:=HY1.out.lt
 have hnm:nameT r1.s=⟨#[]⟩:=by unfold nameT;rw [hk];rfl
 have hnd:nameD r1.s=r1.s:=by unfold nameD;rw [hk];rfl
 clear hk;have CN:=h_ (show Calls Tryz.prog 79 #[.pointer (some ⟨gc,0,none⟩)] WA (fun e w'=>e=.returned (.string ⟨#[]⟩)/\RdAt w' gc r1/\Bar WA w' gc) from by have h1:=tname gc r1 WA HR1.out hl;rw [hnm,hnd] at h1;exact h1);clear hnm hnd;go_wp2_with fail
 refine CN.out.mono ?_
 rintro e w2 ⟨rfl,hrd2,hbar2⟩;have HX2:=h_ (hbar2.blk HX1.out hn2g);have HR2:=h_ hrd2;have HB2:=h_ (HB1.out.trans hbar2);clear hrd2 hbar2 k2 f2 l2 k3 f3 l3;have k2:=HX2.out.cell;have f2:=HX2.out.frozen;have l2:=HX2.out.lt;go_wp2_with fail
 refine (tfail gc r1 20 _ HR2.out).mono ?_
 rintro e w8 ⟨rfl,hrd8,hbar8⟩;have HX8:=h_ (hbar8.blk HX2.out hn2g);have HR8:=h_ hrd8;have HB8:=h_ (HB2.out.trans hbar8);clear hrd8 hbar8;clear k2 f2 l2;have k2:=HX8.out.cell;have f2:=HX8.out.frozen;have l2:=HX8.out.lt;go_wp2_with fail
 refine ret_cell (p:=2) (g:=n2) rfl rfl (blk_set10 (w:=w8) HX8.out) Tryz.underlying50 (by kernel_rfl) rfl ?_
 exact ⟨_,rfl,repO_zero,HR8.out.bar (bar_set10 _ _ _ _ _ _ _ _ _ _ _ _) (Ne.symm hn2g),Bar.join HB8.out (bar_set10 _ _ _ _ _ _ _ _ _ _ _ _) HN2.out⟩
theorem co_call (gc:Nat) (r:Rd) (w:World) (h:RdAt w gc r) (hv:ScalV w) (hg:Glob gc) {n0:Nat} {x:Ex} {r1:Rd} (HO:∀ W,RdAt W gc r->ScalV W->Calls Tryz.prog 98 #[.pointer (some ⟨gc,0,none⟩)] W (OpPost gc x false r1 W)) (hl:r1.s.length<=1000000) (hk:¬ nameK r1.s=0) (hb:r1.Big) (hf:4*r1.s.length<=n0) (HOP:∀ m,m<=n0->∀ (r:Rd) (W:World),4*r.s.length+1<=m->r.Big->RdAt W gc r->ScalV W->Calls Tryz.prog 98 #[.pointer (some ⟨gc,0,none⟩)] W (OpPost gc (operandF m r).1.1 (operandF m r).1.2 (operandF m r).2 W)):Calls Tryz.prog 83 #[.pointer (some ⟨gc,0,none⟩)] w (ExPost gc (argsF n0 (Ex.call (nameT r1.s) []) (r1.go (nameD r1.s))).1 (argsF n0 (Ex.call (nameT r1.s) []) (r1.go (nameD r1.s))).2 w):=by
 have hnz:=nameT_size hl;have hdl:=nameD_len r1.s;obtain ⟨nm,hnm⟩:∃ z,z=nameT r1.s:=⟨_,rfl⟩;obtain ⟨r0,hr0⟩:∃ z,z=r1.go (nameD r1.s):=⟨_,rfl⟩
 have hbig0:r0.Big:=by rw [hr0];exact hb.le (Rd.Le.go (nameD_le _))
 have hlen0:r0.s.length+1<=r1.s.length:=by rw [hr0];show (nameD r1.s).length+1<=_;omega
 have hem2:nm.toList.isEmpty=false:=by rw [empty_eq,hnm];refine decide_eq_false (fun e=>?_);unfold nameT at e;rw [bs_list] at e;have h9:=congrArg List.length e;rw [List.length_take] at h9;have h8:=nameK_le r1.s;simp only [List.length_nil] at h9;omega
 rw [<-hnm] at hnz ⊢;rw [<-hr0]
 have hl3:4*r0.s.length+2<=n0:=by omega
 obtain ⟨Y0,hY0⟩:∃ z,z=argsF n0 (Ex.call nm []) r0:=⟨_,rfl⟩;rw [<-hY0];have HY0:=h_ hY0;have HBIG0:=h_ hbig0;have HOPH:=h_ HOP;have HVW:=h_ hv;have HNM:=h_ hnm;have HR0:=h_ hr0;clear hnm hr0 hY0 hb hbig0 hdl HOP hk hf;have hgc:=Blk.lt h;have hb0:Below w.heap.size w (w.alloc (.cells #[.int .i64 0,.int .i64 0,.bool false,.int .i64 0,.string ⟨#[]⟩,.slice none 0 0,.slice none 0 0,.string ⟨#[]⟩,.slice none 0 0,.slice none 0 0] 50)):=Below.new _ _;have H0:=h_ (RdAt.keep h hb0);have HX0:=h_ (show Blk (w.alloc (.cells #[.int .i64 0,.int .i64 0,.bool false,.int .i64 0,.string ⟨#[]⟩,.slice none 0 0,.slice none 0 0,.string ⟨#[]⟩,.slice none 0 0,.slice none 0 0] 50)) w.heap.size 50 #[.int .i64 0,.int .i64 0,.bool false,.int .i64 0,.string ⟨#[]⟩,.slice none 0 0,.slice none 0 0,.string ⟨#[]⟩,.slice none 0 0,.slice none 0 0] from Blk.new _ _ _);have HB0:=h_ (Bar.of (gc:=gc) hb0);have HV0:=h_ (hv.keep hb0);clear h;obtain ⟨W0,e0⟩:∃ z,z=w.alloc (.cells #[.int .i64 0,.int .i64 0,.bool false,.int .i64 0,.string ⟨#[]⟩,.slice none 0 0,.slice none 0 0,.string ⟨#[]⟩,.slice none 0 0,.slice none 0 0] 50):=⟨_,rfl⟩;obtain ⟨n2,e2⟩:∃ z,z=w.heap.size:=⟨_,rfl⟩;rw [<-e0] at H0 HX0 HB0 HV0;rw [<-e2] at HX0
 have hn2g:n2≠gc:=by omega
 have E0:=h_ e0;have E2:=h_ e2;have HN2:=h_ (show w.heap.size<=n2 from Nat.le_of_eq e2.symm);clear e0 e2 hb0
 go_enter Tryz.func83,Tryz.ntmps83
 refine wp_seq_cut (fun K0 hK0=>?_)
 go_wp2_with fail
 refine hK0.out _ _ ?_
 rw [<-E0.out,<-E2.out];clear E0 hK0 K0;have HOH:=h_ HO;clear HO;go_wp2_with fail
 refine (HOH.out _ H0.out HV0.out).mono ?_
 rintro e w1 ⟨cs,rfl,hx1,hrd1,hbar1⟩;obtain ⟨la,lc,ma,mc,sa,sc,aa,ac,rfl, -⟩:=hx1.1.inv;have hba:=Below.new w1 (.cells (aX x la lc ma mc sa sc aa ac) 50);have HX1:=h_ ((hbar1.blk HX0.out hn2g).keep hba);have HB1:=h_ ((HB0.out.trans hbar1).trans (Bar.of hba));have HR1:=h_ (hrd1.keep hba);have HXX:=h_ (hx1.keep hba);have HV1:=h_ ((HV0.out.bar hbar1 hg).keep hba);have HY1:=h_ (show Blk (w1.alloc (.cells (aX x la lc ma mc sa sc aa ac) 50)) w1.heap.size 50 (aX x la lc ma mc sa sc aa ac) from Blk.new _ _ _);have HN1:=h_ HX0.out.lt;have HS1:=h_ hbar1.size;have hl0:gc < w1.heap.size:=Blk.lt hrd1;have hl2:n2 < w1.heap.size:=Nat.lt_of_lt_of_le HX0.out.lt hbar1.size;clear hba hrd1 hbar1 hx1;unfold aX at *;go_upto_region 2 with fail;obtain ⟨WA,eA⟩:∃ z,z=w1.alloc (.cells #[.int .i64 x.kind,.int .i64 x.val.kind,.bool x.val.bool,.int .i64 x.val.int,.string x.val.str,.slice la x.val.list.length lc,.slice ma x.val.map.length mc,.string x.name,.slice sa x.steps.length sc,.slice aa x.args.length ac] 50):=⟨_,rfl⟩;obtain ⟨n3,e3⟩:∃ z,z=w1.heap.size:=⟨_,rfl⟩;rw [<-eA] at HX1 HB1 HR1 HY1 HXX HV1;rw [<-e3] at HY1 HS1 hl0 hl2;rw [<-eA,<-e3]
 have hn3g:n3≠gc:=by omega
 have hn32:n3≠n2:=by omega
 clear eA e3;have k2:=HX1.out.cell;have f2:=HX1.out.frozen;have l2:=HX1.out.lt;have k3:=HY1.out.cell;have f3:=HY1.out.frozen;have l3:=HY1.out.lt;have CN:=h_ (show Calls Tryz.prog 79 #[.pointer (some ⟨gc,0,none⟩)] WA (fun e w'=>e=.returned (.string nm)/\RdAt w' gc r0/\Bar WA w' gc) from by rw [HNM.out,HR0.out];exact tname gc r1 WA HR1.out hl);clear hv HNM HR0;go_wp2_with fail
 refine CN.out.mono ?_
 rintro e w2 ⟨rfl,hrd2,hbar2⟩;have hba:=Below.new w2 (.cells #[.int .i64 3,.int .i64 0,.bool false,.int .i64 0,.string ⟨#[]⟩,.slice none 0 0,.slice none 0 0,.string nm,.slice none 0 0,.slice none 0 0] 50);have HX2:=h_ ((hbar2.blk HX1.out hn2g).keep hba);have HR2:=h_ (hrd2.keep hba);have HB2:=h_ ((HB1.out.trans hbar2).trans (Bar.of hba));have HZ2:=h_ (show Blk (w2.alloc (.cells #[.int .i64 3,.int .i64 0,.bool false,.int .i64 0,.string ⟨#[]⟩,.slice none 0 0,.slice none 0 0,.string nm,.slice none 0 0,.slice none 0 0] 50)) w2.heap.size 50 #[.int .i64 3,.int .i64 0,.bool false,.int .i64 0,.string ⟨#[]⟩,.slice none 0 0,.slice none 0 0,.string nm,.slice none 0 0,.slice none 0 0] from Blk.new _ _ _);have hl6:gc < w2.heap.size:=Blk.lt hrd2;have hl7:n2 < w2.heap.size:=Nat.lt_of_lt_of_le l2 hbar2.size;clear hba hrd2 hbar2 k2 f2 l2 k3 f3 l3;go_wp2_with fail;obtain ⟨WB,eB⟩:∃ z,z=w2.alloc (.cells #[.int .i64 3,.int .i64 0,.bool false,.int .i64 0,.string ⟨#[]⟩,.slice none 0 0,.slice none 0 0,.string nm,.slice none 0 0,.slice none 0 0] 50):=⟨_,rfl⟩;obtain ⟨n6,e6⟩:∃ z,z=w2.heap.size:=⟨_,rfl⟩;rw [<-eB] at HX2 HR2 HB2 HZ2;rw [<-e6] at HZ2 hl6 hl7
 try rw [<-eB,<-e6]
 have hn6g:n6≠gc:=by omega
 have hn62:n6≠n2:=by omega
 clear eB e6
 go_loopg [] r0.s.length (fun g wr=>∃ (m:Nat) (r:Rd) (L:List Ex) (A:OA_) (c:Nat),g=r.s.length/\m<=n0/\4*r.s.length+2<=m/\L.length+r.s.length<=1000000/\Hid r.Big/\Hid (Y0=argsF m (Ex.call nm L) r)/\Hid (OwnE eltX wr (n6+1) (fun b=>n6+1<=b) A c L)/\Hid (Blk wr n6 50 #[.int .i64 3,.int .i64 0,.bool false,.int .i64 0,.string ⟨#[]⟩,.slice none 0 0,.slice none 0 0,.string nm,.slice none 0 0,.slice A L.length c])/\Hid (Blk wr n2 50 #[.int .i64 0,.int .i64 0,.bool false,.int .i64 0,.string ⟨#[]⟩,.slice none 0 0,.slice none 0 0,.string ⟨#[]⟩,.slice none 0 0,.slice none 0 0])/\Hid (RdAt wr gc r)/\Hid (Bar w wr gc)/\Hid (n6 < wr.heap.size))
 case atStart=>exact ⟨n0,r0,[],none,0,rfl,Nat.le_refl _,hl3,by simp only [List.length_nil];omega,HBIG0,HY0,h_ OwnE.nil,HZ2,HX2,HR2,HB2,h_ HZ2.out.lt⟩
 case round=>
  obtain ⟨m,r,L,A,c,rfl,hm0,hm,hLl,HBIG,HY,HOW,HZ,HX,HR,HB,HSZ⟩:=hrel;clear hl3;obtain ⟨m,rfl⟩:∃ m2,m=m2+1:=⟨m - 1,by omega⟩;have hle:=(le_all m).1 r;have hof:=HOPH.out m (by omega) r wr (by omega) HBIG.out HR.out (HVW.out.bar HB.out hg);have hY:=HY.out;rw [argsF] at hY;obtain ⟨⟨⟨x,bb⟩,r2⟩,hq⟩:∃ z,z=operandF m r:=⟨_,rfl⟩;rw [<-hq] at hle hof hY
  simp only at hle hof hY
  clear hq;have HBIG2:=h_ (HBIG.out.le hle.1);have HOF:=h_ hof;have HYY:=h_ hY;have hlr:=hle.1.len;have HLT:=h_ hle.2;clear hY hof hle HY;go_wp2_with fail
  refine HOF.out.mono ?_
  rintro e w1 ⟨cs,rfl,hx1,hrd1,hbar1⟩;obtain ⟨la1,lc1,ma1,mc1,sa1,sc1,aa1,ac1,rfl, -⟩:=hx1.1.inv;have hba:=Below.new w1 (.cells (aX x la1 lc1 ma1 mc1 sa1 sc1 aa1 ac1) 50);have HOW1:=h_ ((HOW.out.bar hbar1 (by omega) (fun b hb=>by omega)).keep hba);have HOWB:=h_ (((HOW.out.weak (S':=fun b=>n6+1<=b/\b < wr.heap.size) (fun b hb hlt=>⟨hb,hlt⟩)).bar hbar1 (by omega) (fun b hb=>by have:=hb.1;omega)).keep hba);have HX1:=h_ ((hbar1.blk HX.out hn2g).keep hba);have HZ1:=h_ ((hbar1.blk HZ.out hn6g).keep hba);have HB1:=h_ ((HB.out.trans hbar1).trans (Bar.of hba));have HR1:=h_ (hrd1.keep hba);have HXX:=h_ (hx1.1.keep hba);have HY1:=h_ (show Blk (w1.alloc (.cells (aX x la1 lc1 ma1 mc1 sa1 sc1 aa1 ac1) 50)) w1.heap.size 50 (aX x la1 lc1 ma1 mc1 sa1 sc1 aa1 ac1) from Blk.new _ _ _);have hl0:gc < w1.heap.size:=Blk.lt hrd1;have hl6:n6 < w1.heap.size:=Nat.lt_of_lt_of_le HSZ.out hbar1.size;have HSW:=h_ hbar1.size;clear hba hrd1 hbar1 hx1;unfold aX at *;go_upto_region 9 with fail;obtain ⟨WA,eA⟩:∃ z,z=w1.alloc (.cells #[.int .i64 x.kind,.int .i64 x.val.kind,.bool x.val.bool,.int .i64 x.val.int,.string x.val.str,.slice la1 x.val.list.length lc1,.slice ma1 x.val.map.length mc1,.string x.name,.slice sa1 x.steps.length sc1,.slice aa1 x.args.length ac1] 50):=⟨_,rfl⟩;obtain ⟨n7,e7⟩:∃ z,z=w1.heap.size:=⟨_,rfl⟩;rw [<-eA] at HX1 HB1 HR1 HY1 HXX HZ1 HOW1 HOWB;rw [<-e7] at HY1 hl0 hl6 HSW;rw [<-eA,<-e7]
  have hn7g:n7≠gc:=by omega
  have hn76:n7≠n6:=by omega
  have hn72:n7≠n2:=by omega
  clear eA e7
  have hwn:w.heap.size<=n6:=by have:=HN2.out;omega
  cases bb with
  | true=>
   have hlt:=HLT.out rfl;have HE:=h_ (show Y0=argsF m (Ex.call nm (L++[x])) r2 from by have h9:=HYY.out;rw [if_pos rfl] at h9;exact h9);clear HYY HLT;have HBIG3:=HBIG2;go_upto_region 17 with fail;obtain ⟨A2,c2,w3,hrun,ho3,hg3⟩:=own_snocX HOW1.out (x:=x) (cs:=[.int .i64 x.kind,.int .i64 x.val.kind,.bool x.val.bool,.int .i64 x.val.int,.string x.val.str,.slice la1 x.val.list.length lc1,.slice ma1 x.val.map.length mc1,.string x.name,.slice sa1 x.steps.length sc1,.slice aa1 x.args.length ac1]) (HXX.out.weak (fun b hb _=>⟨by have:=HSZ.out;omega,fun e=>by have:=(HOW.out.own b e).2;omega⟩)) (by have:=HY1.out.lt;omega) (by omega)
   have hrow:∀ b,Value.ownBlock (.slice A L.length c)=some b->n6+1<=b:=fun b e=>(HOW1.out.own b e).1
   have HB3:=h_ (HB1.out.grow hg3 (fun b e=>by have:=hrow b e;omega));have HR3:=h_ (HR1.out.grow hg3 (fun e=>by have:=hrow gc e;omega));have HX3:=h_ (HX1.out.grow hg3 (fun e=>by have:=hrow n2 e;omega));have HZ3:=h_ (HZ1.out.grow hg3 (fun e=>by have:=hrow n6 e;omega));obtain ⟨L2,hL2⟩:∃ z,z=L++[x]:=⟨_,rfl⟩
   have hLz:L2.length=L.length+1:=by rw [hL2,List.length_append];rfl
   rw [<-hL2] at hrun ho3;have HE2:=h_ (show Y0=argsF m (Ex.call nm L2) r2 from by rw [hL2];exact HE.out);have RUN:=h_ hrun;have HO3:=h_ ho3;clear hrun ho3 hg3 hrow hL2 HE;have HLZ:=h_ hLz;clear hLz;have k6:=HZ1.out.cell;have f6:=HZ1.out.frozen;have l6:=HZ1.out.lt;have k7:=HY1.out.cell;have f7:=HY1.out.frozen;have l7:=HY1.out.lt;have k6b:=HZ3.out.cell;have f6b:=HZ3.out.frozen;have l6b:=HZ3.out.lt
   go_wp2_with (at_builtin;refine wpList_append_run rfl (.tmp 51) (.tmp 53) 48 rfl RUN.out rfl rfl ?_)
   go_roundg (r2).s.length
   case measure=>exact hlt
   case rel=>exact ⟨m,r2,L2,A2,c2,rfl,by omega,by omega,by have:=HLZ.out;omega,HBIG3,HE2,h_ (HO3.out.far _ (fun g hg=>by have:=(HO3.out.own g hg).1;show g≠n6;omega) (by show ¬ (n6+1<=n6);omega)),h_ (HZ3.out.set_ 9 _),h_ (HX3.out.far (p:=⟨n6,9,none⟩) (Ne.symm hn62) _),h_ (RdAt.bar HR3.out (Bar.set n6 9 _) (Ne.symm hn6g)),h_ (Bar.join HB3.out (Bar.set n6 9 _) hwn),h_ (Nat.lt_of_lt_of_le HZ3.out.lt (Bar.set n6 9 _).size)⟩
  | false=>
   by_cases hk:nameK r2.s=0
   ·have HE:=h_ (show Y0=(Ex.call nm L,r2) from by have h9:=HYY.out;rw [if_neg (by decide),if_pos hk] at h9;exact h9)
    have hnm2:nameT r2.s=⟨#[]⟩:=by unfold nameT;rw [hk];rfl
    have hnd2:nameD r2.s=r2.s:=by unfold nameD;rw [hk];rfl
    have CN2:=h_ (show Calls Tryz.prog 79 #[.pointer (some ⟨gc,0,none⟩)] WA (fun e w'=>e=.returned (.string ⟨#[]⟩)/\RdAt w' gc r2/\Bar WA w' gc) from by have h1:=tname gc r2 WA HR1.out HBIG2.out.len;rw [hnm2,hnd2] at h1;exact h1);obtain ⟨s9,hs9,hb9⟩:=HR1.out.open;have HS9:=h_ hs9;have k0:=hb9.cell;have f0:=hb9.frozen;have l0:=hb9.lt;clear hnm2 hnd2 hk HYY HLT hs9 hb9;go_wp2_with fail
    refine CN2.out.mono ?_
    rintro e w5 ⟨rfl,hrd5,hbar5⟩;have HX5:=h_ (hbar5.blk HX1.out hn2g);have HZ5:=h_ (hbar5.blk HZ1.out hn6g);have HR5:=h_ (show Blk w5 gc 112 #[.string (bs r2.s),.int .i64 r2.deep,.int .i64 r2.bad] from hrd5);have HB5:=h_ (HB1.out.trans hbar5);have HO5:=h_ ((HOW1.out.bar hbar5 (by omega) (fun b hb=>by omega)).bar (Bar.set gc 0 (.string s9)) (by omega) (fun b hb=>by omega));clear hrd5 hbar5 k0 f0 l0;have k0:=HR5.out.cell;have f0:=HR5.out.frozen;have l0:=HR5.out.lt;have k6:=HZ5.out.cell;have f6:=HZ5.out.frozen;have l6:=HZ5.out.lt;have k2:=HX5.out.cell;have f2:=HX5.out.frozen;have l2:=HX5.out.lt;go_wp2_with fail
    refine ret_cell (p:=2) (g:=n2) rfl rfl (blk_set10 (w:=w5.setCell ⟨gc,0,none⟩ (.string s9)) (HX5.out.far (p:=⟨gc,0,none⟩) hn2g _)) Tryz.underlying50 (by kernel_rfl) rfl ?_
    rw [HE.out]
    refine ⟨_,rfl,?_,RdAt.bar (RdAt.of (r:=r2) (HR5.out.s0 (.string s9)) (show s9=bs r2.s from by rw [HS9.out]) rfl rfl) (bar_set10 _ _ _ _ _ _ _ _ _ _ _ _) (Ne.symm hn2g),Bar.join (HB5.out.trans (Bar.set gc 0 _)) (bar_set10 _ _ _ _ _ _ _ _ _ _ _ _) HN2.out⟩
    exact RepO.mono (B:=n6+1) (repO_call hnz (by omega) HO5.out) (by omega) (fun b hb hlt=>Bar.block (bar_set10 _ _ _ _ _ _ _ _ _ _ _ _) b hlt (by omega))
   ·obtain ⟨nm2,hnm2⟩:∃ z,z=nameT r2.s:=⟨_,rfl⟩
    obtain ⟨r5,hr5⟩:∃ z,z=r2.go (nameD r2.s):=⟨_,rfl⟩;have HE:=h_ (show Y0=argsF m (Ex.call nm (L++[Ex.call nm2 []])) r5 from by have h9:=HYY.out;rw [if_neg (by decide),if_neg hk,<-hnm2,<-hr5] at h9;exact h9);have HBIG3:=h_ (show r5.Big from by rw [hr5];exact HBIG2.out.le (Rd.Le.go (nameD_le _)))
    have hlt:r5.s.length < r.s.length:=by have h9:=nameD_len r2.s;rw [hr5];show (nameD r2.s).length < _;omega
    have hnz2:nm2.size<=140737488351232:=by rw [hnm2];exact nameT_size HBIG2.out.len
    have hem3:nm2.toList.isEmpty=false:=by rw [empty_eq,hnm2];refine decide_eq_false (fun e=>?_);unfold nameT at e;rw [bs_list] at e;have h9:=congrArg List.length e;rw [List.length_take] at h9;have h8:=nameK_le r2.s;simp only [List.length_nil] at h9;omega
    have CN2:=h_ (show Calls Tryz.prog 79 #[.pointer (some ⟨gc,0,none⟩)] WA (fun e w'=>e=.returned (.string nm2)/\RdAt w' gc r5/\Bar WA w' gc) from by rw [hnm2,hr5];exact tname gc r2 WA HR1.out HBIG2.out.len);obtain ⟨s9,hs9,hb9⟩:=HR1.out.open;have k0:=hb9.cell;have f0:=hb9.frozen;have l0:=hb9.lt;have HZZ2:=h_ hnz2;clear hnm2 hr5 hk HYY HLT hs9 hb9 hnz2;go_wp2_with fail
    refine CN2.out.mono ?_
    rintro e w5 ⟨rfl,hrd5,hbar5⟩;obtain ⟨WC,eC⟩:∃ z,z=set10 w5 n7 (.int .i64 3) (.int .i64 0) (.bool false) (.int .i64 0) (.string ⟨#[]⟩) (.slice none 0 0) (.slice none 0 0) (.string nm2) (.slice none 0 0) (.slice none 0 0):=⟨_,rfl⟩
    have hb7:Bar w5 WC n7:=by rw [eC];exact (bar_set10 _ _ _ _ _ _ _ _ _ _ _ _)
    have HY5:=h_ (hbar5.blk HY1.out hn7g)
    have hHX:=hb7.blk (hbar5.blk HX1.out hn2g) (Ne.symm hn72);have hHZ:=hb7.blk (hbar5.blk HZ1.out hn6g) (Ne.symm hn76);have hHY:Blk WC n7 50 #[.int .i64 3,.int .i64 0,.bool false,.int .i64 0,.string ⟨#[]⟩,.slice none 0 0,.slice none 0 0,.string nm2,.slice none 0 0,.slice none 0 0]:=by rw [eC];exact blk_set10 HY5.out
    have hHR:=hrd5.bar hb7 (Ne.symm hn7g);have hHB:=Bar.join (HB1.out.trans hbar5) hb7 (by omega);have hHO:OwnE eltX WC (n6+1) (fun b=>n6+1<=b) A c L:=(HOWB.out.bar hbar5 (by omega) (fun b hb=>by have:=hb.1;omega)).mono (fun g hg=>hb7.block g (by have h1:=(HOW.out.own g hg).2;have h2:=HY5.out.lt;have h3:=HSW.out;omega) (by have h1:=(HOW.out.own g hg).2;have h3:=HSW.out;omega)) (fun b hb _ _=>hb.1) (fun b o hb hlt _=>hb7.cell hlt (by have h1:=hb.2;have h3:=HSW.out;omega));clear HX1 HZ1 HY1 HR1 HB1 HOW1 HXX k0 f0 l0;have HX1:=h_ hHX;have HZ1:=h_ hHZ;have HY1:=h_ hHY;have HR1:=h_ hHR;have HB1:=h_ hHB;have HOW1:=h_ hHO;have HXX:=h_ (show RepX WC (fun b=>wr.heap.size<=b) [.int .i64 3,.int .i64 0,.bool false,.int .i64 0,.string ⟨#[]⟩,.slice none 0 0,.slice none 0 0,.string nm2,.slice none 0 0,.slice none 0 0] (Ex.call nm2 []) from repX_call (aa:=none) (l:=[]) (ac:=0) HZZ2.out (Room.nil _) RepXs.nil);have EC:=h_ eC;clear hHX hHZ hHY hHR hHB hHO hrd5 hbar5 eC hb7;have k7:=HY5.out.cell;have f7:=HY5.out.frozen;have l7:=HY5.out.lt;go_upto_region 17 with fail;have eC:=EC.out;unfold set10 at eC;rw [<-eC];clear eC k7 f7 l7;obtain ⟨A2,c2,w3,hrun,ho3,hg3⟩:=own_snocX HOW1.out (x:=Ex.call nm2 []) (cs:=[.int .i64 3,.int .i64 0,.bool false,.int .i64 0,.string ⟨#[]⟩,.slice none 0 0,.slice none 0 0,.string nm2,.slice none 0 0,.slice none 0 0]) (HXX.out.weak (fun b hb _=>⟨by have:=HSZ.out;omega,fun e=>by have:=(HOW.out.own b e).2;omega⟩)) (by have:=HY1.out.lt;omega) (by omega)
    have hrow:∀ b,Value.ownBlock (.slice A L.length c)=some b->n6+1<=b:=fun b e=>(HOW1.out.own b e).1
    have HB3:=h_ (HB1.out.grow hg3 (fun b e=>by have:=hrow b e;omega));have HR3:=h_ (HR1.out.grow hg3 (fun e=>by have:=hrow gc e;omega));have HX3:=h_ (HX1.out.grow hg3 (fun e=>by have:=hrow n2 e;omega));have HZ3:=h_ (HZ1.out.grow hg3 (fun e=>by have:=hrow n6 e;omega));obtain ⟨L2,hL2⟩:∃ z,z=L++[Ex.call nm2 []]:=⟨_,rfl⟩
    have hLz:L2.length=L.length+1:=by rw [hL2,List.length_append];rfl
    rw [<-hL2] at hrun ho3;have HE2:=h_ (show Y0=argsF m (Ex.call nm L2) r5 from by rw [hL2];exact HE.out);have RUN:=h_ hrun;have HO3:=h_ ho3;clear hrun ho3 hg3 hrow hL2 HE;have HLZ:=h_ hLz;clear hLz;have k6:=HZ1.out.cell;have f6:=HZ1.out.frozen;have l6:=HZ1.out.lt;have k7:=HY1.out.cell;have f7:=HY1.out.frozen;have l7:=HY1.out.lt;have k6b:=HZ3.out.cell;have f6b:=HZ3.out.frozen;have l6b:=HZ3.out.lt
    go_wp2_with (at_builtin;refine wpList_append_run rfl (.tmp 51) (.tmp 53) 48 rfl RUN.out rfl rfl ?_)
    go_roundg (r5).s.length
    case measure=>exact hlt
    case rel=>exact ⟨m,r5,L2,A2,c2,rfl,by omega,by omega,by have:=HLZ.out;omega,HBIG3,HE2,h_ (HO3.out.far _ (fun g hg=>by have:=(HO3.out.own g hg).1;show g≠n6;omega) (by show ¬ (n6+1<=n6);omega)),h_ (HZ3.out.set_ 9 _),h_ (HX3.out.far (p:=⟨n6,9,none⟩) (Ne.symm hn62) _),h_ (RdAt.bar HR3.out (Bar.set n6 9 _) (Ne.symm hn6g)),h_ (Bar.join HB3.out (Bar.set n6 9 _) hwn),h_ (Nat.lt_of_lt_of_le HZ3.out.lt (Bar.set n6 9 _).size)⟩
end Go.Proofs.YtnblmhfgmehnnaaGreatDoor
namespace Go.Proofs.YtnblmhfgmehnnaaGreatDoor
open Go.RowKit Go.Lib
section
variable {α:Type} {E:Elt α} {w w':World} {S S':Nat->Prop} {a A:OA_} {B c:Nat} {l:List α}
theorem own_append_at2 {l2:List α} {es:List Value} {ad:Addr} {cc ty t:Nat} (ht:t=E.slt) (h:OwnE E w B S A c l) (hbig:(l.length+l2.length)*E.bytes<=140737488355328) (hmax:l.length+l2.length<=maxLen) (hB:B<=w.heap.size)
  (hlen:es.length=l2.length*E.sz) (hes:∀ j u,es[j]? =some u->w.cell? (ad.add j)=some u)
  (hx:∀ i (hi:i < l2.length),E.R w (fun b=>S b/\Value.ownBlock (.slice A l.length c)≠some b) ((es.drop (i*E.sz)).take E.sz) l2[i]):
  ∃ A' c' w',(Builtin.append_ #[t,t] ty #[.slice A l.length c,.slice (some ad) l2.length cc]).run Tryz.prog w=.ok (.slice A' (l++l2).length c') w'/\OwnE E w' B S A' c' (l++l2)/\w.grownBy w' (Value.ownBlock (.slice A l.length c))/\(Value.ownBlock (.slice A' (l++l2).length c')=Value.ownBlock (.slice A l.length c)\/Value.ownBlock (.slice A' (l++l2).length c')=some w.heap.size):=by
 subst ht;obtain ⟨i0,hi0,hz0,hz1,hz2⟩:=info_parts E.hinfo;obtain ⟨xs,h1,h2,h3⟩:=h
 have hone:∀ u ∈ es,u.oneCell'=true:=by
  intro u hu;obtain ⟨j,hj,rfl⟩:=List.getElem_of_mem hu;have hp:=E.pos
  have hq:j / E.sz < l2.length:=by rw [Nat.div_lt_iff_lt_mul hp];omega
  have:=E.one (hx (j / E.sz) hq) es[j] (by
   rw [List.mem_iff_getElem?]
   refine ⟨j % E.sz,?_⟩
   rw [List.getElem?_take_of_lt (Nat.mod_lt _ hp),List.getElem?_drop,Nat.div_add_mod' j E.sz,List.getElem?_eq_getElem hj])
  exact this
 obtain ⟨v',w',hr,hown,hgr,hnl,hat⟩:=run_append_own_at (P:=Tryz.prog) w B E.slt ty E.ty i0 E.zero E.sz E.bytes E.hund hi0 hz0 hz1 hz2 E.hzero E.pos (.slice A l.length c) l.length xs h1 ad l2.length cc es hlen hes hone hmax hbig hB;have hx1:=h1.1
 obtain ⟨A',c',rfl⟩:∃ A' c',v'=.slice A' (l++l2).length c':=by
  rcases hown.2 with ⟨e,h0⟩ | ⟨g',cap',cur',e,_⟩
  ·exact ⟨none,0,by rw [e,List.length_append,h0]⟩
  ·exact ⟨_,_,by rw [e,List.length_append]⟩
 have hS:∀ b,S b/\Value.ownBlock (.slice A l.length c)≠some b->b < w.heap.size->S b/\Value.ownBlock (.slice A' (l++l2).length c')≠some b:=fun b hb hlt=>by
  refine ⟨hb.1,fun e=>?_⟩
  rcases hat with h | h
  ·exact hb.2 (h.symm.trans e)
  ·rw [h] at e
   injection e with e
   omega
 have hcl:∀ b o,S b/\Value.ownBlock (.slice A l.length c)≠some b->b < w.heap.size->w'.cell? ⟨b,o,none⟩=w.cell? ⟨b,o,none⟩:=fun b o hb hlt=>
  World.cell?_of_block (hgr.block b hlt (fun e=>hb.2 e.symm))
 refine ⟨A',c',w',hr,⟨xs++es,by rw [<-List.length_append] at hown;exact hown,fun u hu=>?_,fun i hi=>?_⟩,hgr,hat⟩
 ·rcases List.mem_append.1 hu with h | h
  ·exact h2 u h
  ·exact hone u h
 ·have hd:=drop_take_append (ys:=es) (i:=i) hx1
  by_cases h:i < l.length
  ·rw [hd.1 h,List.getElem_append_left h]
   exact E.mono (h3 i h) hS hcl
  ·rw [hd.2 (by omega),List.getElem_append_right (by omega)]
   exact E.mono (hx (i - l.length) (by rw [List.length_append] at hi;omega)) hS hcl
theorem OwnE.rep2 (h:OwnE E w B S A c l):RepE E w (fun b=>S b\/Value.ownBlock (.slice A l.length c)=some b) A l:=by
 obtain ⟨xs,⟨hl,hc⟩,_,h3⟩:=h;intro i hi;have hr:=h3 i hi;have hlr:=E.len hr
 rcases hc with ⟨e',h0⟩ | ⟨g,cap,cur,e',h1,h2,hn,hm,hs,ht⟩
 ·omega
 ·simp at e'
  obtain ⟨rfl,rfl⟩:=e'
  refine ⟨g,0,_,rfl,.inr rfl,fun j u hu=>?_,E.weak hr (fun b hb _=> .inl hb.1)⟩
  have hj:j < E.sz:=by
   have:=(List.getElem?_eq_some_iff.1 hu).1
   omega
  have hb:Blk w g E.ty cur:=h2;rw [hb.cell,Nat.zero_add];rw [List.getElem?_take_of_lt hj,List.getElem?_drop,<-ht,List.getElem?_take_of_lt] at hu
  ·simpa using hu
  ·have:(i+1)*E.sz<=l.length*E.sz:=Nat.mul_le_mul_right _ hi
   rw [Nat.add_mul,Nat.one_mul] at this
   omega
end
theorem RepX.parts {w:World} {S:Nat->Prop} {x:Ex} {la:OA_} {lc:Nat} {ma:OA_} {mc:Nat} {sa:OA_} {sc:Nat} {aa:OA_} {ac:Nat} (h:RepX w S [.int .i64 x.kind,.int .i64 x.val.kind,.bool x.val.bool,.int .i64 x.val.int,.string x.val.str,.slice la x.val.list.length lc,.slice ma x.val.map.length mc,.string x.name,.slice sa x.steps.length sc,.slice aa x.args.length ac] x):PartsX w S la lc ma mc sa sc aa ac x:=by
 obtain ⟨la',lc',ma',mc',sa',sc',aa',ac',e,hp⟩:=h.inv
 simp only [List.cons.injEq,Value.slice.injEq,true_and,and_true] at e
 obtain ⟨⟨rfl,rfl⟩,⟨rfl,rfl⟩,⟨rfl,rfl⟩,rfl,rfl⟩:=e
 exact hp
structure PartsO (w:World) (S:Nat->Prop) (la:OA_) (lc:Nat) (ma:OA_) (mc:Nat) (sa:OA_) (sc:Nat) (aa:OA_) (ac:Nat) (x:Ex):Prop where
 rep:RepX w S [.int .i64 x.kind,.int .i64 x.val.kind,.bool x.val.bool,.int .i64 x.val.int,.string x.val.str,.slice la x.val.list.length lc,.slice ma x.val.map.length mc,.string x.name,.slice sa x.steps.length sc,.slice aa x.args.length ac] x
 own:OwnE eltX w 0 S aa ac x.args
 inS:∀ g,Value.ownBlock (.slice aa x.args.length ac)=some g->S g
 val:RepT w (fun b=>S b/\Value.ownBlock (.slice aa x.args.length ac)≠some b) (.agg #[.int .i64 x.val.kind,.bool x.val.bool,.int .i64 x.val.int,.string x.val.str,.slice la x.val.list.length lc,.slice ma x.val.map.length mc]) x.val
 steps:RepS w (fun b=>S b/\Value.ownBlock (.slice aa x.args.length ac)≠some b) sa x.steps
section
variable {w w':World} {S S':Nat->Prop} {cs:List Value} {x:Ex} {la:OA_} {lc:Nat} {ma:OA_} {mc:Nat} {sa:OA_} {sc:Nat} {aa:OA_} {ac:Nat}
theorem RepOS.inv (h:RepOS w S cs x):∃ la lc ma mc sa sc aa ac,cs=[.int .i64 x.kind,.int .i64 x.val.kind,.bool x.val.bool,.int .i64 x.val.int,.string x.val.str,.slice la x.val.list.length lc,.slice ma x.val.map.length mc,.string x.name,.slice sa x.steps.length sc,.slice aa x.args.length ac]/\PartsO w S la lc ma mc sa sc aa ac x:=by
 obtain ⟨h1,la,lc,ma,mc,sa,sc,aa,ac,rfl,h3,h4,h5,h6⟩:=h
 exact ⟨la,lc,ma,mc,sa,sc,aa,ac,rfl,h1,h3,h4,h5,h6⟩
theorem PartsO.whole (h:PartsO w S la lc ma mc sa sc aa ac x):RepOS w S [.int .i64 x.kind,.int .i64 x.val.kind,.bool x.val.bool,.int .i64 x.val.int,.string x.val.str,.slice la x.val.list.length lc,.slice ma x.val.map.length mc,.string x.name,.slice sa x.steps.length sc,.slice aa x.args.length ac] x:=⟨h.rep,la,lc,ma,mc,sa,sc,aa,ac,rfl,h.own,h.inS,h.val,h.steps⟩
theorem PartsO.mono (h:PartsO w S la lc ma mc sa sc aa ac x) (hS:∀ b,S b->b < w.heap.size->S' b) (hw:∀ b,S b->b < w.heap.size->w'.heap[b]? =w.heap[b]?):PartsO w' S' la lc ma mc sa sc aa ac x:=by
 have hc:∀ b o,S b->b < w.heap.size->w'.cell? ⟨b,o,none⟩=w.cell? ⟨b,o,none⟩:=fun b o hb hlt=>World.cell?_of_block (a:=⟨b,o,none⟩) (hw b hb hlt)
 exact ⟨h.rep.mono hS hc,h.own.mono (fun g hg=>hw g (h.inS g hg) (h.own.own g hg).2) (fun b hb hlt _=>hS b hb hlt) (fun b o hb hlt _=>hc b o hb hlt),fun g hg=>hS g (h.inS g hg) (h.own.own g hg).2,h.val.mono (fun b hb hlt=>⟨hS b hb.1 hlt,hb.2⟩) (fun b o hb hlt=>hc b o hb.1 hlt),h.steps.mono (fun b hb hlt=>⟨hS b hb.1 hlt,hb.2⟩) (fun b o hb hlt=>hc b o hb.1 hlt)⟩
theorem PartsO.keep (h:PartsO w S la lc ma mc sa sc aa ac x) (hb:Below w.heap.size w w'):PartsO w' S la lc ma mc sa sc aa ac x:=h.mono (fun _ h _=>h) (fun b _ hlt=>hb.block b hlt)
theorem push_run {Sx:Nat->Prop} {y:Ex} {csx:List Value} (h:PartsO w S la lc ma mc sa sc aa ac y) (hx:RepX w Sx csx x) (hxS:∀ b,Sx b->b < w.heap.size->S b/\Value.ownBlock (.slice aa y.args.length ac)≠some b) (hl:y.args.length<=1000000):
  ∃ A' c' w',(Builtin.append_ #[48,48] 48 #[.slice aa y.args.length ac,.slice (some ⟨w.heap.size,0,none⟩) 1 1]).run Tryz.prog (w.alloc (.cells csx.toArray 50))=.ok (.slice A' (y.push x).args.length c') w'/\PartsO w' (fun b=>S b\/w.heap.size < b) la lc ma mc sa sc A' c' (y.push x)/\(w.alloc (.cells csx.toArray 50)).grownBy w' (Value.ownBlock (.slice aa y.args.length ac)):=by
 have ha:Below w.heap.size w (w.alloc (.cells csx.toArray 50)):=Below.new _ _
 have hz:(w.alloc (.cells csx.toArray 50)).heap.size=w.heap.size+1:=by simp
 obtain ⟨A',c',w',hr,hown,hgr,hat⟩:=own_append_at2 (E:=eltX) (l2:=[x]) (es:=csx) (ad:=⟨w.heap.size,0,none⟩) (cc:=1) (ty:=48) (t:=48) rfl (h.own.keep ha) (by show (y.args.length+1)*160<=_;omega) (by simp;unfold maxLen;omega) (Nat.zero_le _) (by rw [hx.len];rfl)
  (fun j u hu=>by rw [show (⟨w.heap.size,0,none⟩:Addr).add j=⟨w.heap.size,0+j,none⟩ from by unfold Addr.add;split <;>simp_all,Nat.zero_add,(Blk.new w 50 csx.toArray).cell];simpa using hu)
  (fun i hi=>by
   obtain rfl:i=0:=by simpa using hi
   have h10:=hx.len;rw [show (eltX).sz=10 from rfl,Nat.zero_mul,List.drop_zero,List.take_of_length_le (by omega)]
   exact (hx.weak hxS).keep ha)
 have ho2:∀ b,(S b/\Value.ownBlock (.slice aa y.args.length ac)≠some b)->b < (w.alloc (.cells csx.toArray 50)).heap.size->(S b\/w.heap.size < b)/\Value.ownBlock (.slice A' (y.args++[x]).length c')≠some b:=fun b hb hlt=>by
  refine ⟨.inl hb.1,fun e=>?_⟩
  rcases hat with h9 | h9
  ·exact hb.2 (h9.symm.trans e)
  ·rw [h9] at e;injection e with e;omega
 have hcl:∀ b o,(S b/\Value.ownBlock (.slice aa y.args.length ac)≠some b)->b < (w.alloc (.cells csx.toArray 50)).heap.size->w'.cell? ⟨b,o,none⟩=(w.alloc (.cells csx.toArray 50)).cell? ⟨b,o,none⟩:=fun b o hb hlt=>World.cell?_of_block (hgr.block b hlt (fun e=>hb.2 e.symm))
 have hv:=(h.val.mono (w':=w.alloc (.cells csx.toArray 50)) (fun _ h _=>h) (fun _ _ _ hlt=>ha.cell hlt)).mono ho2 hcl;have hst:=(h.steps.mono (w':=w.alloc (.cells csx.toArray 50)) (fun _ h _=>h) (fun _ _ _ hlt=>ha.cell hlt)).mono ho2 hcl
 have hin:∀ g,Value.ownBlock (.slice A' (y.args++[x]).length c')=some g->S g\/w.heap.size < g:=fun g hg=>by
  rcases hat with h9 | h9
  ·exact .inl (h.inS g (h9.symm.trans hg))
  ·rw [h9] at hg;injection hg with hg;exact .inr (by omega)
 have how:OwnE eltX w' 0 (fun b=>S b\/w.heap.size < b) A' c' (y.args++[x]):=hown.weak (fun b hb _=> .inl hb);have hp:=h.rep.parts
 refine ⟨A',c',w',hr,⟨RepX.of (x:=y.push x) ⟨hp.kind,hv.mono (fun _ hb _=>hb.1) (fun _ _ _ _=>rfl),hp.name,hst.mono (fun _ hb _=>hb.1) (fun _ _ _ _=>rfl),hp.sroom,?_,?_⟩,how,hin,hv,hst⟩,hgr⟩
 ·show Room (y.args++[x]).length c' 160
  exact ⟨how.len.1,how.len.2,by rw [List.length_append,List.length_singleton];omega⟩
 ·exact RepE.weak (E:=eltX) how.rep2 (fun b hb _=>hb.elim id (hin b))
end
end Go.Proofs.YtnblmhfgmehnnaaGreatDoor
